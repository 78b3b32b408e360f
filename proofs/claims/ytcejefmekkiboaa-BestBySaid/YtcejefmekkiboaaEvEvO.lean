/-
  The evaluator: what an operation, a piece of code, a call of the program comes to, on data.
-/
import Derived.Test.YtcejefmekkiboaaEvEvD
set_option linter.unusedVariables false
set_option linter.unusedSimpArgs false
set_option linter.unnecessarySimpa false
namespace Go.Ev
open Go.RowKit
def ap {α:Type} (f:Nat→α) (k:Nat) (v:α):Nat→α:=fun i=>if i=k then v else f i
theorem ae {α:Type} (f:Nat→α) (k:Nat) (v:α):ap f k v k=v:=by simp[ap]
theorem ab {α:Type} (f:Nat→α) {k i:Nat} (v:α) (h:i≠k):ap f k v i=f i:=by simp[ap,h]
inductive A where
 |tmp (n:Nat)
 |lit (x:D)
 deriving Inhabited
def A.ev (ρ:Nat→D):A→D
 | .tmp n=>ρ n
 | .lit x=>x
def Tok.strip:Tok→Tok
 | .isnil=>.isnil
 |_=>.no
def D.strip1:D→D
 | .slice t sz xs=>.slice t.strip sz xs
 |d=>d
def D.strip:D→D
 | .slice t sz xs=>.slice t.strip sz xs
 | .agg cs=>.agg (cs.map D.strip1)
 | .tuple vs=>.tuple (vs.map fun| .agg cs=>.agg (cs.map D.strip1)|d=>d.strip1)
 |d=>d
inductive O where
 |mov (x:A)
 |pick (c a b:A)
 |bin (op:BinOp) (x y:A)
 |eqlB (neg:Bool) (x y:A)
 |eqlNil (neg:Bool) (x:A)
 |eqlS (neg:Bool) (x:A)
 |eqlP (neg:Bool) (sz:Nat) (offs:List Nat) (x y:A)
 |not (x:A)
 |neg (x:A)
 |conv (k:IntKind) (x:A)
 |nilCheck (x:A)
 |alloc (zero:List D)
 |box (sz:Nat) (x:A)
 |build (zero:List D) (fills:List (Nat×Nat×A))
 |bslice (sz:Nat) (xs:List A)
 |load (agg:Bool) (sz:Nat) (x:A)
 |store (sz:Nat) (a x:A)
 |faddr (off:Nat) (x:A)
 |iaddrS (sz:Nat) (x i:A)
 |iaddrA (n sz:Nat) (x i:A)
 |indexA (n sz:Nat) (agg:Bool) (x i:A)
 |slice (sz:Nat) (x:A) (lo hi mx:Option A)
 |sliceA (n sz:Nat) (x:A) (lo hi:Option A)
 |extract (x:A) (i:Nat)
 |lenS (x:A)
 |lenM (x:A)
 |capS (x:A)
 |clear (zero:List D) (x:A)
 |append (sz bytes:Nat) (x y:A)
 |appendZ (sz bytes:Nat) (zero:List D) (x n:A)
 |min (xs:List A)
 |max (xs:List A)
 |mkfunc (f:Nat) (caps:List A)
 |mkmap
 |lookup (zero:D) (ok:Bool) (x k:A)
 |mapset (sz:Nat) (m k v:A)
 /-- One goes over a map. The evaluator does not: the order is open (SmR). -/
 |rangeM (x:A)
 |nextM (x:A)
 |entryM (x:A)
 |call (f:A) (args:List A)
 |bad
 deriving Inhabited
def il (op:BinOp) (a b:D):Option D:=
 match a,b with
 | .int k x,.int k' y=>
   match op with
   | .shl=>if 0≤y then some (.int k (k.wrap (x*2 ^ (Nat.min y.toNat k.bits))))else none
   | .shr=>if 0≤y then some (.int k (x.fdiv (2 ^ (Nat.min y.toNat k.bits))))else none
   |op=>if k≠k' then none else
    match op with
    | .add=>some (.int k (k.wrap (x+y)))
    | .sub=>some (.int k (k.wrap (x - y)))
    | .mul=>some (.int k (k.wrap (x*y)))
    | .quo=>if y=0 then none else some (.int k (k.wrap (x.tdiv y)))
    | .rem=>if y=0 then none else some (.int k (x.tmod y))
    | .eql=>some (.bool (x==y))
    | .neq=>some (.bool (x !=y))
    | .lss=>some (.bool (x<y))
    | .leq=>some (.bool (x≤y))
    | .gtr=>some (.bool (x>y))
    | .geq=>some (.bool (x≥y))
    | .and=>some (.int k (k.wrap (BitVec.ofInt k.bits x&&& BitVec.ofInt k.bits y).toNat))
    | .or=>some (.int k (k.wrap (BitVec.ofInt k.bits x|||BitVec.ofInt k.bits y).toNat))
    | .xor=>some (.int k (k.wrap (BitVec.ofInt k.bits x ^^^ BitVec.ofInt k.bits y).toNat))
    |_=>none
 |_,_=>none
def mK (cs ds:List D):List Nat→Option Bool
 |[]=>some true
 |i::r=>match cs[i]?,ds[i]? with
  |some (.int k x),some (.int k' y)=>if k=k' then(mK cs ds r).map (x==y&& ·)else none
  |_,_=>none
def bL:D→Option Nat
 | .int _ n=>if 0≤n then some n.toNat else none
 |_=>none
def Box.cs:Box→Option (List D)
 | .cells cs=>some cs
 | .row cs=>some cs
 |_=>none
def Box.set:Box→List D→Box
 | .cells _,cs=>.cells cs
 | .row _,cs=>.row cs
 |b,_=>b
def Store.cellsAt (st:Store) (l:Nat):Option (List D):=
 ((st.boxes l).bind Box.cs).map fun cs=>if l<st.lim then cs.map D.strip1 else cs
def cut (agg:Bool) (sz off:Nat) (cs:List D):Option D:=
 if off+sz≤cs.length then
  if agg then some (.agg ((cs.drop off).take sz))else if sz=1 then cs[off]? else none
 else none
def jt:List (Nat×Nat×D)→List D→Option (List D)
 |[],cs=>some cs
 |(off,sz,d)::r,cs=>if d.cells.length=sz∧off+sz≤cs.length∧d.cells.all D.one=true then jt r (cs.take off++d.cells++cs.drop (off+sz))else none
def zN:D→List D→Option D
 | .int k x,[]=>some (.int k x)
 | .int k x,.int _ y::r=>zN (.int k (if y<x then y else x)) r
 |_,_=>none
def Aq:D→List D→Option D
 | .int k x,[]=>some (.int k x)
 | .int k x,.int _ y::r=>Aq (.int k (if y>x then y else x)) r
 |_,_=>none
def cJ (k:Int) (d:D):List (Int×D)→List (Int×D)
 |[]=>[(k,d)]
 |(k',d')::r=>if k'=k then(k,d)::r else(k',d')::cJ k d r
def aZ (k:Int):List (Int×D)→Option D
 |[]=>none
 |(k',d')::r=>if k'=k then some d' else aZ k r
def lc (sz:Nat) (d:D) (lo hi mx:Option D):Option D:=
 match d with
 | .slice t sz' xs=>
   if xs.isEmpty||sz'==sz then
    match (match lo with|none=>some 0|some x=>bL x),(match hi with|none=>some xs.length|some x=>bL x),(match mx with|none=>some none|some x=>(bL x).map some)with
    |some l,some h,some m=>
     if l≤h∧h≤xs.length∧(m.getD h)≤xs.length∧h≤m.getD h then
      some (.slice (if m=some h then .exact else if m.isSome then .no else if h=xs.length then(if t=.exact then .exact else if t=.isnil then .isnil else if l=0∧sz'=sz then t else .no)else .no) sz ((xs.take h).drop l))
     else none
    |_,_,_=>none
   else none
 | .rs l off sz' n c=>
   if sz'==sz then
    match (match lo with|none=>some 0|some x=>bL x),(match hi with|none=>some n|some x=>bL x),(match mx with|none=>some c|some x=>bL x)with
    |some a,some h,some m=>if a≤h∧h≤m∧m≤c then some (.rs l (off+a*sz) sz (h - a) (m - a))else none
    |_,_,_=>none
   else none
 |_=>none
def lk (sz:Nat) (y:D) (st:Store):Option (List D×Nat):=
 match y with
 | .slice _ s2 ys=>if ys.isEmpty||s2==sz then some (ys.flatMap D.cells,ys.length)else none
 | .rs l off s2 n _=>if s2==sz then(st.cellsAt l).bind fun cs=>if off+n*sz≤cs.length then some ((cs.drop off).take (n*sz),n)else none else none
 |_=>none
def iE (sz bytes:Nat) (x y:D) (st:Store):Option (D×Store):=
 match x with
 | .rs l off s1 n c=>(lk sz y st).bind fun(ys,m)=>
   match st.boxes l with
   |some (.row cs)=>
    if s1=sz∧st.lim≤l∧off+n*sz≤cs.length then
     if n+m≤c∧off+(n+m)*sz≤cs.length then some (.rs l off sz (n+m) c,{st with boxes:=ap st.boxes l (some (.row (cs.take (off+n*sz)++ys++cs.drop (off+(n+m)*sz))))})
     else if off=0∧(n+m)*bytes≤140737488355328 then some (.rs st.next 0 sz (n+m) (n+m),{st with boxes:=ap (ap st.boxes l none) st.next (some (.row (cs.take (n*sz)++ys))),next:=st.next+1})
     else none
    else none
   |_=>none
 |_=>none
def iJ (sz bytes:Nat) (x y:D) (st:Store):Option (D×Store):=
 match x with
 | .slice .exact s1 xs| .slice .isnil s1 xs=>(lk sz y st).bind fun(ys,m)=>
   if(s1=sz∨xs.isEmpty)∧(xs.length+m)*bytes≤140737488355328∧0<m then
    some (.rs st.next 0 sz (xs.length+m) (xs.length+m),{st with boxes:=ap st.boxes st.next (some (.row (xs.flatMap D.cells++ys))),next:=st.next+1})
   else if m=0 then some (x,st)else none
 |x=>iE sz bytes x y st
def eZ (sz bytes:Nat) (x y:D) (st:Store):Option (D×Store):=
 match x,y with
 | .slice t s1 xs,.slice _ s2 ys=>
   if(s1==sz||(xs.isEmpty&&s1==0))&&(ys.isEmpty||s2==sz)&&decide ((xs.length+ys.length)*bytes≤140737488355328)then
    match t with
    | .own k=>if st.toks k&&decide (st.tlim≤k)then some (.slice (.own st.ntok) sz (xs++ys),{st with toks:=ap (ap st.toks k false) st.ntok true,ntok:=st.ntok+1})else none
    | .exact| .isnil=>some (.slice (.own st.ntok) sz (xs++ys),{st with toks:=ap st.toks st.ntok true,ntok:=st.ntok+1})
    |_=>none
   else none
 |x,y=>iE sz bytes x y st
def O.run (o:O) (ρ:Nat→D) (st:Store):Option (D×Store):=
 match o with
 | .mov x=>some (x.ev ρ,st)
 | .pick c a b=>match c.ev ρ with
   | .bool t=>some (if t then a.ev ρ else b.ev ρ,st)
   |_=>none
 | .bin op x y=>(il op (x.ev ρ) (y.ev ρ)).map (·,st)
 | .eqlB ng x y=>match x.ev ρ,y.ev ρ with
   | .bool a,.bool b=>some (.bool (if ng then a !=b else a==b),st)
   |_,_=>none
 | .eqlNil ng x=>match x.ev ρ with
   | .nilptr=>some (.bool (!ng),st)
   | .ptr _ _=>some (.bool ng,st)
   |_=>none
 | .eqlS ng x=>match x.ev ρ with
   | .slice .isnil _ _=>some (.bool (!ng),st)
   | .slice .nonnil _ _=>some (.bool ng,st)
   | .slice _ sz (_::_)=>if 0<sz then some (.bool ng,st)else none
   | .rs _ _ _ _ _=>some (.bool ng,st)
   |_=>none
 | .eqlP ng sz offs x y=>match x.ev ρ,y.ev ρ with
   | .agg a,.agg b=>if a.length=sz∧b.length=sz then(mK a b offs).map fun r=>(.bool (if ng then !r else r),st)else none
   |_,_=>none
 | .not x=>match x.ev ρ with
   | .bool a=>some (.bool (!a),st)
   |_=>none
 | .neg x=>match x.ev ρ with
   | .int k a=>some (.int k (k.wrap (0 - a)),st)
   |_=>none
 | .conv k x=>match x.ev ρ with
   | .int _ a=>some (.int k (k.wrap a),st)
   |_=>none
 | .nilCheck x=>match x.ev ρ with
   | .ptr l o=>some (.ptr l o,st)
   | .eptr a b c d=>some (.eptr a b c d,st)
   | .func f c=>some (.func f c,st)
   |_=>none
 | .alloc zero=>some (.ptr st.next 0,{st with boxes:=ap st.boxes st.next (some (.cells zero)),next:=st.next+1})
 | .box sz x=>if(x.ev ρ).cells.length=sz∧(x.ev ρ).cells.all D.one=true then some (.ptr st.next 0,{st with boxes:=ap st.boxes st.next (some (.cells (x.ev ρ).cells)),next:=st.next+1})else none
 | .build zero fills=>(jt (fills.map fun f=>(f.1,f.2.1,f.2.2.ev ρ)) zero).map fun cs=>(.agg cs,st)
 | .bslice sz xs=>if(xs.all fun x=>(x.ev ρ).strip.cells.length==sz&&(x.ev ρ).strip.cells.all D.plain)&&decide (xs.length*sz≤16777216)then some (.slice .exact sz (xs.map fun x=>(x.ev ρ).strip),st)else none
 | .load agg sz x=>match x.ev ρ with
   | .ptr l off=>(st.cellsAt l).bind fun cs=>(cut agg sz off cs).map (·,st)
   | .eptr _ xs i off=>(xs[i]?).bind fun x=>(cut agg sz off x.cells).map (·,st)
   |_=>none
 | .store sz a x=>match a.ev ρ with
   | .ptr l off=>if l<st.lim then none else(st.boxes l).bind fun b=>b.cs.bind fun cs=>
     (jt [(off,sz,x.ev ρ)] cs).map fun cs'=>(.undef,{st with boxes:=ap st.boxes l (some (b.set cs'))})
   |_=>none
 | .faddr off x=>match x.ev ρ with
   | .ptr l o=>some (.ptr l (o+off),st)
   | .eptr sz xs i o=>some (.eptr sz xs i (o+off),st)
   |_=>none
 | .iaddrS sz x i=>match x.ev ρ,bL (i.ev ρ)with
   | .slice _ sz' xs,some i=>if i<xs.length∧sz'=sz then some (.eptr sz xs i 0,st)else none
   | .rs l off sz' n _,some i=>if i<n∧sz'=sz then some (.ptr l (off+i*sz),st)else none
   |_,_=>none
 | .iaddrA n sz x i=>match x.ev ρ,bL (i.ev ρ)with
   | .ptr l o,some i=>if i<n then some (.ptr l (o+i*sz),st)else none
   | .eptr s xs k o,some i=>if i<n then some (.eptr s xs k (o+i*sz),st)else none
   |_,_=>none
 | .indexA n sz agg x i=>match x.ev ρ,bL (i.ev ρ)with
   | .agg cs,some i=>if i<n then(cut agg sz (i*sz) cs).map (·,st)else none
   |_,_=>none
 | .slice sz x lo hi mx=>(lc sz (x.ev ρ) (lo.map (·.ev ρ)) (hi.map (·.ev ρ)) (mx.map (·.ev ρ))).map (·,st)
 | .sliceA n sz x lo hi=>match x.ev ρ with
   | .ptr l off=>(st.cellsAt l).bind fun cs=>
     match (match lo.map (·.ev ρ)with|none=>some 0|some x=>bL x),(match hi.map (·.ev ρ)with|none=>some n|some x=>bL x)with
     |some a,some h=>if a≤h∧h≤n∧off+n*sz≤cs.length then some (.rs l (off+a*sz) sz (h - a) (n - a),st)else none
     |_,_=>none
   |_=>none
 | .extract x i=>match x.ev ρ with
   | .tuple vs=>(vs[i]?).map (·,st)
   |_=>none
 | .lenS x=>match x.ev ρ with
   | .slice _ _ xs=>some (.int .i64 xs.length,st)
   | .rs _ _ _ n _=>some (.int .i64 n,st)
   |_=>none
 | .lenM x=>match x.ev ρ with
   | .map l=>match st.boxes l with
     |some (.map kv)=>some (.int .i64 kv.length,st)
     |_=>none
   | .nilmap=>some (.int .i64 0,st)
   |_=>none
 | .capS x=>match x.ev ρ with
   | .slice .exact _ xs| .slice .isnil _ xs=>some (.int .i64 xs.length,st)
   |_=>none
 | .clear zero x=>match x.ev ρ with
   | .slice _ _ []=>some (.undef,st)
   | .rs l off sz n _=>if n=0 then some (.undef,st)else if l<st.lim then none else(st.boxes l).bind fun b=>b.cs.bind fun cs=>
     if off+n*sz≤cs.length∧zero.length=sz then some (.undef,{st with boxes:=ap st.boxes l (some (b.set (cs.take off++(List.replicate n zero).flatten++cs.drop (off+n*sz))))})else none
   |_=>none
 | .append sz bytes x y=>eZ sz bytes (x.ev ρ) (y.ev ρ) st
 | .appendZ sz bytes zero x n=>match x.ev ρ,bL (n.ev ρ)with
   | .slice .isnil _ [],some n=>if 0<n∧n*bytes≤140737488355328 then some (.rs st.next 0 sz n n,{st with boxes:=ap st.boxes st.next (some (.row ((List.replicate n zero).flatten))),next:=st.next+1})else none
   |_,_=>none
 | .min xs=>match xs with
   |[]=>none
   |x::r=>(zN (x.ev ρ) (r.map (·.ev ρ))).map (·,st)
 | .max xs=>match xs with
   |[]=>none
   |x::r=>(Aq (x.ev ρ) (r.map (·.ev ρ))).map (·,st)
 | .mkfunc f caps=>some (.func f (caps.map (·.ev ρ)),st)
 | .mkmap=>some (.map st.next,{st with boxes:=ap st.boxes st.next (some (.map [])),next:=st.next+1})
 | .lookup zero ok x k=>match x.ev ρ,k.ev ρ with
   | .map l,.int .i64 i=>match st.boxes l with
     |some (.map kv)=>match aZ i kv with
      |some d=>some (if ok then .tuple [d,.bool true]else d,st)
      |none=>some (if ok then .tuple [zero,.bool false]else zero,st)
     |_=>none
   | .nilmap,.int .i64 _=>some (if ok then .tuple [zero,.bool false]else zero,st)
   |_,_=>none
 | .mapset sz m k v=>match m.ev ρ,k.ev ρ with
   | .map l,.int .i64 i=>if l<st.lim then none else match st.boxes l with
     |some (.map kv)=>some (.undef,{st with boxes:=ap st.boxes l (some (.map (cJ i (v.ev ρ).strip kv)))})
     |_=>none
   |_,_=>none
 | .rangeM _| .nextM _| .entryM _=>none
 | .call _ _=>none
 | .bad=>none
def O.runM (mv:Bool) (o:O) (ρ:Nat→D) (st:Store):Option (D×Store):=
 match mv,o with
 |true,.append sz bytes x y=>iJ sz bytes (x.ev ρ) (y.ev ρ) st
 |_,o=>o.run ρ st
def O.quiet:O→Bool
 | .alloc _| .box _ _| .bslice _ _| .store _ _ _| .append _ _ _ _| .mkmap| .mapset _ _ _ _| .clear _ _| .appendZ _ _ _ _ _| .rangeM _| .nextM _| .entryM _| .bad=>false
 |_=>true
def A.reads:A→List Nat
 | .tmp n=>[n]
 | .lit _=>[]
def A.readsO:Option A→List Nat
 |some x=>x.reads
 |none=>[]
def O.reads:O→List Nat
 | .mov x| .rangeM x| .nextM x| .entryM x| .eqlNil _ x| .eqlS _ x| .not x| .neg x| .conv _ x| .nilCheck x| .box _ x| .load _ _ x| .faddr _ x| .extract x _| .lenS x| .lenM x| .capS x| .clear _ x=>x.reads
 | .pick c a b=>c.reads++a.reads++b.reads
 | .bin _ x y| .eqlB _ x y| .eqlP _ _ _ x y| .iaddrS _ x y| .iaddrA _ _ x y| .indexA _ _ _ x y| .append _ _ x y| .appendZ _ _ _ x y| .lookup _ _ x y| .store _ x y=>x.reads++y.reads
 | .alloc _| .mkmap| .bad=>[]
 | .build _ fills=>fills.flatMap fun f=>f.2.2.reads
 | .bslice _ xs| .min xs| .max xs| .mkfunc _ xs=>xs.flatMap A.reads
 | .slice _ x lo hi mx=>x.reads++A.readsO lo++A.readsO hi++A.readsO mx
 | .sliceA _ _ x lo hi=>x.reads++A.readsO lo++A.readsO hi
 | .mapset _ m k v=>m.reads++k.reads++v.reads
 | .call f args=>f.reads++args.flatMap A.reads
inductive Fl where
 |n|r (p:Nat)|w (p:Nat)|t|a (p:Nat)|c|f|v (l:Nat) (ps:List Nat)
 deriving DecidableEq,Repr,Inhabited
def Fl.clash:Fl→Fl→Bool
 | .n,_=>false
 | .r p,k=>match k with| .w q=>p==q| .a q=>p==q| .v q _=>p==q| .f=>true|_=>false
 | .w p,k=>match k with| .n=>false| .r q=>p==q| .w q=>p==q| .a q=>p==q| .v q ps=>p==q||ps.contains p| .t=>false|_=>true
 | .t,k=>match k with| .t| .c| .f| .v _ _=>true|_=>false
 | .a p,k=>match k with| .n=>false| .r q=>p==q| .w q=>p==q| .t=>false|_=>true
 | .c,k=>match k with| .w _| .t| .f| .a _| .v _ _=>true|_=>false
 | .v l ps,k=>match k with| .n=>false| .r q=>l==q| .w q=>l==q||ps.contains q|_=>true
 | .f,k=>match k with| .n=>false|_=>true
def O.acc (mv:Bool) (ρ:Nat→D):O→Fl
 | .load _ _ x=>match x.ev ρ with| .ptr p _=>.r p| .eptr _ _ _ _=>.n|_=>.f
 | .lenM x=>match x.ev ρ with| .map p=>.r p| .nilmap=>.n|_=>.f
 | .lookup _ _ x _=>match x.ev ρ with| .map p=>.r p| .nilmap=>.n|_=>.f
 | .sliceA _ _ x _ _=>match x.ev ρ with| .ptr p _=>.r p|_=>.f
 | .store _ a _=>match a.ev ρ with| .ptr p _=>.w p|_=>.f
 | .append _ _ x y=>match mv,x.ev ρ,y.ev ρ with|false,.slice _ _ _,.slice _ _ _=>.t|_,_,_=>.f
 | .alloc _| .box _ _| .appendZ _ _ _ _ _| .mkmap| .mapset _ _ _ _| .clear _ _| .rangeM _| .nextM _| .entryM _| .call _ _| .bad=>.f
 |_=>.n
structure Op1 where
 dst:Option Nat
 guard:Option (Nat×Bool)
 mv:Bool
 op:O
 deriving Inhabited
inductive C where
 |skip
 |ops (draw:Bool) (l:List Op1)
 |draw (bef:List (List Nat)) (l:List Op1)
 /-- .. whose allocations are all made ahead -/
 |drawA (bef:List (List Nat)) (l:List Op1)
 |seq (a b:C)
 |cond (x:A) (a b:C)
 |block (id:Nat) (b:C)
 |loop (b:C)
 |exit (id:Nat)
 |ret
 |goto (l:Nat)
 /-- Code in which the run may jump to the label l: from there on it is 'rest'. -/
 |scope (c:C) (l:Nat) (rest:C)
 |again (l:Nat) (rest:C)
 |bad
 deriving Inhabited
inductive Rs where
 |tmp (t:Nat)
 |cell (t:Nat) (agg:Bool) (sz:Nat)
 deriving Inhabited
structure CF where
 n:Nat
 res:List Rs
 ro:Bool
 mv:List Nat
 body:C
 deriving Inhabited
inductive FD where
 |code (f:CF)
 |prim (F:List D→Option D)
 |primS (F:List D→Store→Option (D×Store))
inductive X where
 |normal|exit (id:Nat)|ret|goto (l:Nat)
 deriving DecidableEq,Repr,Inhabited
def D.free1:D→Bool
 | .ptr _ _| .map _| .func _ (_::_)| .agg _| .tuple _| .rs _ _ _ _ _=>false
 |_=>true
def D.free:D→Bool
 | .agg cs=>cs.all D.free1
 | .tuple vs=>vs.all fun| .agg cs=>cs.all D.free1|d=>d.free1
 |d=>d.free1
def D.freeA:D→Bool
 | .agg cs=>cs.all D.free1
 |d=>d.free1
def D.ground1:D→Bool
 | .bool _| .int _ _| .str _| .nilptr| .nilfunc| .nilmap=>true
 |_=>false
def D.ground:D→Bool
 | .agg cs=>cs.all D.ground1
 | .tuple vs=>vs.all fun| .agg cs=>cs.all D.ground1|d=>d.ground1
 |d=>d.ground1
def a8 (st:Store):D→Option D
 | .slice (.own k) sz xs=>if st.toks k&&decide (st.tlim≤k)then some (.slice .fresh sz xs)else none
 | .slice .exact sz xs=>some (.slice .exact sz xs)
 |_=>none
def aU (st:Store):D→D
 | .agg (c::cs)=>.agg ((a8 st c).getD c.strip1::cs.map D.strip1)
 |d=>(a8 st d).getD d.strip
def fv (st:Store):D→D
 | .tuple (v::vs)=>.tuple (aU st v::vs.map D.strip)
 |d=>aU st d
def rF (k:Nat):D→D
 | .slice .fresh sz xs=>.slice (.own k) sz xs
 |d=>d
def dl (k:Nat):D→D
 | .agg (c::cs)=>.agg (rF k c::cs)
 |d=>rF k d
def wS (k:Nat):D→D
 | .tuple (v::vs)=>.tuple (dl k v::vs)
 |d=>dl k d
def fK:D→Bool
 | .slice .fresh _ _=>true
 |_=>false
def bX:D→Bool
 | .agg (c::_)=>fK c
 |d=>fK d
def aF:D→Bool
 | .tuple (v::_)=>bX v
 |d=>bX d
def sy:List D→D
 |[c]=>c
 |cs=>.agg cs
def ct (sz n:Nat) (cs:List D):List D:=(List.range n).map fun i=>sy ((cs.drop (i*sz)).take sz)
def seen (st:Store):D→D
 | .rs l off sz n c=>match st.boxes l with
   |some (.row cs)=>if off+n*sz≤cs.length∧0<sz∧cs.all D.plain=true then .slice .no sz (ct sz n (cs.drop off))else .rs l off sz n c
   |_=>.rs l off sz n c
 |d=>d.strip
def D.seeable:D→Bool
 | .rs _ _ _ _ _=>true
 |d=>d.freeA
def D.apart:D→Bool
 | .slice .row sz xs=>decide (0<sz)&&xs.all (fun d=>d.cells.length==sz&&d.cells.all D.ground1&&(match d.cells with|[c]=>(match d with| .agg _=>false|_=>true)|_=>(match d with| .agg _=>true|_=>false)))
 | .slice .no _ []| .slice .exact _ []| .slice .isnil _ []=>true
 |d=>d.ground
def eR (st:Store):D→Option D
 | .rs l off sz n _=>match st.boxes l with
   |some (.row cs)=>if off=0∧n*sz≤cs.length∧0<sz∧cs.all D.plain=true then some (.slice .row sz (ct sz n cs))else none
   |_=>none
 |_=>none
def Cf (st:Store):D→Option D
 | .tuple (v::vs)=>if(D.tuple vs).free then(eR st v).map fun v'=>.tuple (v'::vs.map D.strip)else none
 |d=>eR st d
def rH (st:Store) (r:D):Option D:=if r.free then some (fv st r)else none
def eE (st:Store) (r:D):Option D:=if r.free then some (fv st r)else Cf st r
def ej (st:Store) (mv:Bool):D→D×Store
 | .slice .row sz xs=>if mv then(.rs st.next 0 sz xs.length xs.length,{st with boxes:=ap st.boxes st.next (some (.row (xs.flatMap D.cells))),next:=st.next+1})else(.slice .no sz xs,st)
 |d=>(d,st)
def dS:D→Bool
 | .slice .row _ _=>true
 | .tuple (.slice .row _ _::_)=>true
 |_=>false
def aw (mv:Bool) (r:D) (st:Store):D×Store:=
 if aF r then(wS st.ntok r,{st with toks:=ap st.toks st.ntok true,ntok:=st.ntok+1})
 else match r with
  | .tuple (v::vs)=>(.tuple ((ej st mv v).1::vs),(ej st mv v).2)
  |d=>ej st mv d
def uS:List D→Store→Store
 |[],st=>st
 | .rs l _ _ _ _::r,st=>uS r {st with boxes:=ap st.boxes l none}
 |_::r,st=>uS r st
def fI (st:Store) (ds:List D):Bool:=ds.all fun| .rs l _ _ _ _=>decide (st.lim≤l)|_=>true
def enter (args:List D):Nat→D:=fun i=>args.getD i .undef
def oS (ρ:Nat→D) (st:Store):Rs→Option D
 | .tmp t=>some (ρ t)
 | .cell t agg sz=>match ρ t with
   | .ptr l off=>(st.cellsAt l).bind fun cs=>cut agg sz off cs
   |_=>none
def aI (ρ:Nat→D) (st:Store) (rs:List Rs):Option D:=
 match rs with
 |[r]=>oS ρ st r
 |rs=>(rs.mapM (oS ρ st)).map .tuple
def ao (ρ:Nat→D):Option (Nat×Bool)→Option Bool
 |none=>some true
 |some (g,want)=>match ρ g with
  | .bool b=>some (b==want)
  | .undef=>some false
  |_=>none
def cy (ρ:Nat→D) (dst:Option Nat) (d:D):Nat→D:=match dst with|some k=>ap ρ k d|none=>ρ
def bB (bef:List (List Nat)) (fl:List Fl):Bool:=
 (List.range fl.length).all fun j=>(List.range j).all fun i=>
  match fl[i]?,fl[j]? with
  |some a,some b=>(bef.getD j []).contains i|| !a.clash b
  |_,_=>false
/-! ### Regions whose allocations are made ahead -/
def gw (n:Nat) (o:Op1):Op1:=match o.op with| .alloc _=>⟨o.dst,o.guard,o.mv,.mov (.lit (.ptr n 0))⟩|_=>o
def gM:Nat→List Op1→List Op1
 |_,[]=>[]
 |n,o::l=>gw n o::gM (n+1) l
def kS (n:Nat) (o:Op1) (f:Nat→Option Box):Nat→Option Box:=match o.op with| .alloc z=>ap f n (some (.cells z))|_=>f
def jc:Nat→List Op1→(Nat→Option Box)→(Nat→Option Box)
 |_,[],f=>f
 |n,o::l,f=>jc (n+1) l (kS n o f)
def Store.ahead (st:Store) (l:List Op1):Store:={st with boxes:=jc st.next l st.boxes,next:=st.next+l.length}
def Op1.rd (o:Op1):List Nat:=(match o.guard with|some (g,_)=>[g]|none=>[])++o.op.reads
def FL (l:List Op1):Bool:=l.all fun o=>match o.op with| .alloc _=>o.guard==none|_=>true
def rG (bj:List Nat) (base n p:Nat):Bool:=decide (p<base)||decide (base+n≤p)||bj.contains (p - base)
def jI (bef:List (List Nat)) (base:Nat) (fl:List Fl):Bool:=(List.range fl.length).all fun j=>match fl[j]? with
 |some .n|some .t=>true
 |some (.r p)|some (.w p)=>rG (bef.getD j []) base fl.length p
 |some (.a p)=>decide (base+fl.length≤p)
 |some (.v l ps)=>rG (bef.getD j []) base fl.length l&&ps.all (rG (bef.getD j []) base fl.length)
 |_=>false
/-! ### Calls that write to one row alone -/
def D.ptrs1:D→List Nat
 | .ptr l _=>[l]
 |_=>[]
def D.ptrsOf:D→List Nat
 | .ptr l _=>[l]
 | .func _ cs=>cs.flatMap D.ptrs1
 |_=>[]
def D.rowOf:D→List Nat
 | .rs l _ _ _ _=>[l]
 |_=>[]
def lG (ds:List D):Option (Nat×List Nat):=match ds.flatMap D.rowOf with
 |[l]=>some (l,ds.flatMap D.ptrsOf)
 |_=>none
def qZ (ds:List D):Option (Nat×List Nat):=match ds.flatMap D.rowOf with
 |[]=>(ds.flatMap D.ptrsOf).getLast?.map fun p=>(p,ds.flatMap D.ptrsOf)
 |_=>none
def jO (st:Store) (l:Nat) (ps:List Nat):Store:={boxes:=fun q=>if q=l∨q∈ps then st.boxes q else none,next:=st.next,toks:=fun _=>false,ntok:=st.ntok,lim:=l,tlim:=st.ntok}
def lx (st:Store) (l:Nat) (ps:List Nat):Store:={jO st l ps with lim:=st.next}
def gz (r:D):Bool:=r.ground||(match r with| .slice .no _ []| .slice .exact _ []| .slice .isnil _ []=>true|_=>false)
def fA (st C1:Store) (r:D):Option D:=match r with
 | .rs q _ _ _ _=>if st.next≤q then(match seen C1 r with
   | .slice t sz xs=>if xs.all (fun d=>d.cells.all D.ground1)=true then some (.slice t sz xs)else none
   |_=>none)else none
 |_=>none
def jh (st:Store) (l:Nat) (ps:List Nat):Bool:=decide (st.lim≤l)&&decide (l<st.next)&&(match st.boxes l with|some (.row _)=>true|_=>false)&&ps.all (fun p=>decide (p<l)&&(match st.boxes p with|some (.cells _)=>true|_=>false))
def oc (r:D) (l:Nat):Bool:=r.ground||(match r with| .rs q _ _ _ _=>q==l|_=>false)
def gRow:Option Box→Option Box
 |some (.row cs)=>some (.row (cs.takeWhile D.ground1))
 |_=>none
def Av (Γ:Nat→Option FD) (f:Nat):Bool:=match Γ f with|some (.code cf)=>cf.ro|_=>false
section
variable (Γ:Nat→Option FD)
mutual
def aM:Nat→Nat→List D→Option D
 |0,_,_=>none
 |n+1,f,args=>
  match Γ f with
  |some (.code cf)=>
   if cf.ro then
    match aW n cf.body (enter args) Store.empty with
    |some (.normal,ρ,st1)|some (.ret,ρ,st1)=>(aI ρ st1 cf.res).bind (eE st1)
    |_=>none
   else none
  |some (.prim F)=>F args
  |_=>none
def bs:Nat→Nat→List D→Store→Option D
 |0,_,_,_=>none
 |n+1,f,args,st=>
  if(args.map D.strip).all D.freeA then aM n f (args.map D.strip)else
  if(args.map D.strip).all D.seeable then
   (if(args.map (seen st)).all D.freeA then
    match aM n f (args.map (seen st))with
    |some r=>if r.apart then some r else none
    |none=>none
   else none)else
  match Γ f with
  |some (.code cf)=>
   if cf.ro then
    match aW n cf.body (enter (args.map D.strip)) {st with lim:=st.next,tlim:=st.ntok}with
    |some (.normal,ρ,st1)|some (.ret,ρ,st1)=>(aI ρ st1 cf.res).bind (rH st1)
    |_=>none
   else none
  |some (.prim F)=>F (args.map D.strip)
  |_=>none
def aQ:Nat→Nat→List D→Store→Option (D×Store)
 |0,_,_,_=>none
 |n+1,f,args,st=>
  match Γ f with
  |some (.code cf)=>
   if cf.ro then
    if(args.map D.strip).all D.freeA then none else
    if(args.map D.strip).all D.seeable&&(args.map (seen st)).all D.freeA&&fI st args then
     match aM n f (args.map (seen st))with
     |some r=>if r.apart then none else some (aw true r (uS args st))
     |none=>none
    else none
   else
    match aW n cf.body (enter (args.map D.strip)) st with
    |some (.normal,ρ,st1)|some (.ret,ρ,st1)=>(aI ρ st1 cf.res).map fun r=>(r.strip,st1)
    |_=>none
  |some (.primS F)=>F (args.map D.strip) st
  |_=>none
def bt:Nat→Bool→List Op1→(Nat→D)→Store→Option ((Nat→D)×Store)
 |_,_,[],ρ,st=>some (ρ,st)
 |0,_,_::_,_,_=>none
 |n+1,draw,o::l,ρ,st=>
  match (match o.guard with
   |none=>some true
   |some (g,want)=>match ρ g with
    | .bool b=>some (b==want)
    | .undef=>some false
    |_=>none)with
  |none=>none
  |some false=>bt n draw l (match o.dst with|some d=>ap ρ d .undef|none=>ρ) st
  |some true=>
   match (match o.op with
    | .call f args=>match f.ev ρ with
      | .func f caps=>match bs n f (args.map (·.ev ρ)++caps) st with
        |some r=>if draw then(if r.ground then some (r,st)else none)else some (aw o.mv r st)
        |none=>if draw then none else aQ n f (args.map (·.ev ρ)++caps) st
      |_=>none
    |op=>op.runM o.mv ρ st)with
   |some (d,st')=>bt n draw l (match o.dst with|some k=>ap ρ k d|none=>ρ) st'
   |none=>none
def bp:Nat→List Op1→(Nat→D)→Store→Option ((Nat→D)×Store×List Fl)
 |_,[],ρ,st=>some (ρ,st,[])
 |0,_::_,_,_=>none
 |n+1,o::l,ρ,st=>
  match ao ρ o.guard with
  |none=>none
  |some false=>match bp n l (cy ρ o.dst .undef) st with
   |some (ρ',st',fl)=>some (ρ',st',.n::fl)
   |none=>none
  |some true=>
   match (match o.op with
    | .call f args=>match f.ev ρ with
      | .func f caps=>
        if((args.map (·.ev ρ)++caps).map D.strip).all D.freeA then
         match aM n f ((args.map (·.ev ρ)++caps).map D.strip)with
         |some r=>if aF r then(if o.mv&&(r.free&& !dS r)then some (r.strip,st,.n)else none)else if o.mv&&dS r then some ((aw true r st).1,(aw true r st).2,.a st.next)else some ((aw false r st).1,st,.n)
         |none=>match aQ n f (args.map (·.ev ρ)++caps) st with
          |some (r,st')=>some (r,st',.f)
          |none=>none
        else if o.mv then match lG (args.map (·.ev ρ)++caps)with
         |some (p,ps)=>
          if Av Γ f then
           (if((args.map (·.ev ρ)++caps).map (seen st)).all D.freeA&&fI st (args.map (·.ev ρ)++caps)then
            match aM n f ((args.map (·.ev ρ)++caps).map (seen st))with
            |some r=>if r.free&& !dS r then some (r.strip,{st with boxes:=ap st.boxes p none},.w p)else none
            |none=>none
           else none)
          else
           (if jh st p ps then
            match aQ n f (args.map (·.ev ρ)++caps) (jO st p ps)with
            |some (r,C1)=>if oc r p then some (r,{st with boxes:=ap st.boxes p (gRow (C1.boxes p))},.v p ps)else none
            |none=>none
           else none)
         |none=>match qZ (args.map (·.ev ρ)++caps)with
          |some (p,ps)=>(match aQ n f (args.map (·.ev ρ)++caps) (lx st p ps)with
           |some (r,C1)=>if gz r then some (r,st,.v (st.next) ps)else(fA st C1 r).map fun d=>(d,st,.v (st.next) ps)
           |none=>none)
          |none=>none
        else match bs n f (args.map (·.ev ρ)++caps) st with
         |some r=>if aF r then none else some ((aw false r st).1,st,.c)
         |none=>match aQ n f (args.map (·.ev ρ)++caps) st with
          |some (r,st')=>some (r,st',.f)
          |none=>none
      |_=>none
    |op=>match op.runM o.mv ρ st with
     |some (d,st')=>some (d,st',op.acc o.mv ρ)
     |none=>none)with
   |some (d,st',k)=>match bp n l (cy ρ o.dst d) st' with
    |some (ρ',st'',fl)=>some (ρ',st'',k::fl)
    |none=>none
   |none=>none
def aW:Nat→C→(Nat→D)→Store→Option (X×(Nat→D)×Store)
 |0,_,_,_=>none
 |n+1,c,ρ,st=>
  match c with
  | .skip=>some (.normal,ρ,st)
  | .ops draw l=>match bt n draw l ρ st with
    |some (ρ',st')=>some (.normal,ρ',st')
    |none=>none
  | .draw bef l=>match bp n l ρ st with
    |some (ρ',st',fl)=>if bB bef fl then some (.normal,ρ',st')else none
    |none=>none
  | .drawA bef l=>match bp n (gM st.next l) ρ (st.ahead l)with
    |some (ρ',st',fl)=>if bB bef fl&&jI bef st.next fl then some (.normal,ρ',st')else none
    |none=>none
  | .seq a b=>match aW n a ρ st with
    |some (.normal,ρ',st')=>aW n b ρ' st'
    |r=>r
  | .cond x a b=>match x.ev ρ with
    | .bool t=>aW n (if t then a else b) ρ st
    |_=>none
  | .block id b=>match aW n b ρ st with
    |some (.exit j,ρ',st')=>some (if j=id then .normal else .exit j,ρ',st')
    |r=>r
  | .loop b=>match aW n b ρ st with
    |some (.normal,ρ',st')=>aW n (.loop b) ρ' st'
    |r=>r
  | .exit id=>some (.exit id,ρ,st)
  | .ret=>some (.ret,ρ,st)
  | .goto l=>some (.goto l,ρ,st)
  | .scope c l rest=>match aW n c ρ st with
    |some (.goto l',ρ',st')=>if l'=l then aW n (.again l rest) ρ' st' else none
    |r=>r
  | .again l rest=>match aW n rest ρ st with
    |some (.goto l',ρ',st')=>if l'=l then aW n (.again l rest) ρ' st' else none
    |r=>r
  | .bad=>none
end
end
end Go.Ev
