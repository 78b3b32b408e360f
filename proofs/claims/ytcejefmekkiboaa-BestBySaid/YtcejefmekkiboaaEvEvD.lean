/-
  The evaluator's data: what a value of the program stands for, and how it stands in memory. No program in it.
-/
import Derived.Calls
import Derived.Below
import Derived.Deep.Draws
import Derived.Laws.World
import Derived.Laws.AppendOwn
import Derived.Laws.NewBlocks
set_option linter.unusedVariables false
set_option linter.unusedSimpArgs false
set_option linter.unnecessarySimpa false
namespace Go.Ev
open Go.RowKit
inductive Tok where
 |no|exact|own (t:Nat)|fresh|row|isnil|nonnil
 deriving DecidableEq,Repr,Inhabited
inductive D where
 |undef
 |bool (b:Bool)
 |int (k:IntKind) (n:Int)
 |str (s:ByteArray)
 |slice (t:Tok) (sz:Nat) (xs:List D)
 |agg (cs:List D)
 |tuple (vs:List D)
 |ptr (l off:Nat)
 |nilptr
 |eptr (sz:Nat) (xs:List D) (i off:Nat)
 |func (f:Nat) (caps:List D)
 |nilfunc
 |map (l:Nat)
 |nilmap
 /-- A slice upon a box of the store: from a cell on, elements of so many cells, so many; its capacity is at least c. -/
 |rs (l off sz n c:Nat)
 deriving Inhabited
def D.cells:D→List D
 | .agg cs=>cs
 |d=>[d]
def D.one:D→Bool
 | .agg _| .tuple _| .undef=>false
 |_=>true
def D.plain:D→Bool
 | .bool _| .int _ _| .str _| .nilptr| .nilfunc| .nilmap| .func _ []| .slice .no _ _| .slice .isnil _ _=>true
 |_=>false
theorem D.plain_one {d:D} (h:d.plain=true):d.one=true:=by cases d<;>simp_all[D.plain,D.one]
structure RowInfo where
 b:Nat
 e:Nat
 T:TypeId
 n:Nat
structure Ghost where
 S:Nat→Nat→Prop
 ι:Nat→Option Nat
 τ:Nat→Option RowInfo
def TokOK (τ:Nat→Option RowInfo) (t:Tok) (sz:Nat) (A:Option Addr) (len cap:Nat):Prop:=
 match t with
 | .no=>True
 | .exact=>cap=len
 | .own t=>cap=len∨0<sz∧∃r,τ t=some r∧A=some ⟨r.b,0,none⟩∧r.e=len*sz∧r.n=cap*sz
 | .fresh| .row=>True
 | .isnil=>A=none∧len=0∧cap=0
 | .nonnil=>A≠none
inductive VR (w:World) (g:Ghost):D→Value→Prop where
 |undef:VR w g .undef (.tuple #[])
 |bool (b):VR w g (.bool b) (.bool b)
 |int (k n):VR w g (.int k n) (.int k n)
 |str (s):VR w g (.str s) (.string s)
 |slice (t:Tok) (sz:Nat) (xs:List D) (A:Option Addr) (len cap:Nat) (vals:Nat→Nat→Value) (hl:xs.length=len) (hc:len≤cap) (ht:TokOK g.τ t sz A len cap)
   (hs:∀(i:Nat) (x:D),xs[i]?=some x→x.cells.length=sz∧∀c∈x.cells,c.plain=true)
   (hA:∀(i:Nat) (x:D) (j:Nat) (c:D),xs[i]?=some x→x.cells[j]?=some c→∃ad,A=some ad∧g.S ad.block (ad.off+(i*sz+j))∧ad.spot=none∧w.cell? ⟨ad.block,ad.off+(i*sz+j),none⟩=some (vals i j))
   (hv:∀(i:Nat) (x:D) (j:Nat) (c:D),xs[i]?=some x→x.cells[j]?=some c→VR w g c (vals i j)):VR w g (.slice t sz xs) (.slice A len cap)
 |agg (cs:List D) (vs:Array Value) (hl:cs.length=vs.size) (ho:∀c∈cs,c.one=true) (hv:∀(j:Nat) c v,cs[j]?=some c→vs[j]?=some v→VR w g c v):VR w g (.agg cs) (.agg vs)
 |tuple (cs:List D) (vs:Array Value) (hl:cs.length=vs.size) (hv:∀(j:Nat) c v,cs[j]?=some c→vs[j]?=some v→VR w g c v):VR w g (.tuple cs) (.tuple vs)
 |ptr (l off b:Nat) (h:g.ι l=some b):VR w g (.ptr l off) (.pointer (some ⟨b,off,none⟩))
 |nilptr:VR w g .nilptr (.pointer none)
 |eptr (sz:Nat) (xs:List D) (i off:Nat) (ad:Addr) (vals:Nat→Nat→Value)
   (hs:∀(i:Nat) (x:D),xs[i]?=some x→x.cells.length=sz∧∀c∈x.cells,c.plain=true) (hsp:ad.spot=none)
   (hA:∀(i:Nat) (x:D) (j:Nat) (c:D),xs[i]?=some x→x.cells[j]?=some c→g.S ad.block (ad.off+(i*sz+j))∧w.cell? ⟨ad.block,ad.off+(i*sz+j),none⟩=some (vals i j))
   (hv:∀(i:Nat) (x:D) (j:Nat) (c:D),xs[i]?=some x→x.cells[j]?=some c→VR w g c (vals i j)):VR w g (.eptr sz xs i off) (.pointer (some ⟨ad.block,ad.off+(i*sz+off),none⟩))
 |func (f:Nat) (cs:List D) (vs:Array Value) (hl:cs.length=vs.size) (hv:∀(j:Nat) c v,cs[j]?=some c→vs[j]?=some v→VR w g c v):VR w g (.func f cs) (.func (.func f) #[] vs)
 |nilfunc:VR w g .nilfunc .nilFunc
 |map (l b:Nat) (h:g.ι l=some b):VR w g (.map l) (.map (some b))
 |nilmap:VR w g .nilmap (.map none)
 |rs (l off sz n c b o cap:Nat) (vs:Array Value) (T:TypeId) (h:g.ι l=some b) (hb:w.heap[b]?=some (.cells vs T (0,0))) (ho:o=off∨cap=0) (hn:n≤c) (hc:c≤cap) (hk:off+cap*sz≤vs.size):VR w g (.rs l off sz n c) (.slice (some ⟨b,o,none⟩) n cap)
def VRs (w:World) (g:Ghost) (ds:List D) (vs:List Value):Prop:=ds.length=vs.length∧∀(j:Nat) d v,ds[j]?=some d→vs[j]?=some v→VR w g d v
structure Ext (B:Nat) (w:World) (g:Ghost) (w':World) (g':Ghost):Prop where
 below:Below B w w'
 S:∀b o,g.S b o→g'.S b o
 cell:∀b o,g.S b o→w'.cell? ⟨b,o,none⟩=w.cell? ⟨b,o,none⟩
 /-- a block that is settled as a whole -/
 whole:∀b,(∀o,g.S b o)→w'.heap[b]?=w.heap[b]?
 ι:∀l b,g.ι l=some b→g'.ι l=some b
 τ:∀t r,g.τ t=some r→g'.τ t=some r
 new:∀b o,g'.S b o→g.S b o∨B≤b
 keep:∀l b vs T fr,g.ι l=some b→w.heap[b]?=some (.cells vs T fr)→∃vs':Array Value,w'.heap[b]?=some (.cells vs' T fr)∧vs'.size=vs.size
theorem Ext.refl (B:Nat) (w:World) (g:Ghost):Ext B w g w g:=⟨Below.refl _ _,fun _ _ h=>h,fun _ _ _=>rfl,fun _ _=>rfl,fun _ _ h=>h,fun _ _ h=>h,fun _ _ h=>.inl h,fun _ _ vs _ _ _ h=>⟨vs,h,rfl⟩⟩
theorem Ext.trans {B:Nat} {w w1 w2:World} {g g1 g2:Ghost} (h:Ext B w g w1 g1) (k:Ext B w1 g1 w2 g2):Ext B w g w2 g2:=
 ⟨h.below.trans k.below,fun b o x=>k.S b o (h.S b o x),fun b o x=>(k.cell b o (h.S b o x)).trans (h.cell b o x),fun b x=>(k.whole b fun o=>h.S b o (x o)).trans (h.whole b x),fun l b x=>k.ι l b (h.ι l b x),fun t r x=>k.τ t r (h.τ t r x),
   fun b o x=>(k.new b o x).elim (h.new b o) .inr,fun l b vs T fr x y=>by
    obtain⟨vs1,h1,h2⟩:=h.keep l b vs T fr x y
    obtain⟨vs2,h3,h4⟩:=k.keep l b vs1 T fr (h.ι l b x) h1
    exact⟨vs2,h3,h4.trans h2⟩⟩
theorem TokOK.mono {τ τ':Nat→Option RowInfo} (h:∀t r,τ t=some r→τ' t=some r) {t:Tok} {sz:Nat} {A:Option Addr} {len cap:Nat} (k:TokOK τ t sz A len cap):TokOK τ' t sz A len cap:=by
 cases t with
 |no=>trivial
 |exact=>exact k
 |own t=>rcases k with k|⟨h0,r,h1,h2⟩
         ·exact .inl k
         ·exact .inr ⟨h0,r,h _ _ h1,h2⟩
 |fresh=>trivial
 |row=>trivial
 |isnil=>exact k
 |nonnil=>exact k
theorem VR.mono {B:Nat} {w w':World} {g g':Ghost} (e:Ext B w g w' g') {d:D} {v:Value} (h:VR w g d v):VR w' g' d v:=by
 induction h with
 |undef=>exact .undef
 |bool b=>exact .bool b
 |int k n=>exact .int k n
 |str s=>exact .str s
 |slice t sz xs A len cap vals hl hc ht hs hA hv ih=>
  refine .slice t sz xs A len cap vals hl hc (ht.mono e.τ) hs (fun i x j c h1 h2=>?_) ih
  obtain⟨ad,e1,e2,e3,e4⟩:=hA i x j c h1 h2
  exact⟨ad,e1,e.S _ _ e2,e3,(e.cell _ _ e2).trans e4⟩
 |agg cs vs hl ho hv ih=>exact .agg cs vs hl ho ih
 |tuple cs vs hl hv ih=>exact .tuple cs vs hl ih
 |ptr l off b h=>exact .ptr l off b (e.ι _ _ h)
 |nilptr=>exact .nilptr
 |eptr sz xs i off ad vals hs hsp hA hv ih=>
  refine .eptr sz xs i off ad vals hs hsp (fun i x j c h1 h2=>?_) ih
  obtain⟨e2,e4⟩:=hA i x j c h1 h2
  exact⟨e.S _ _ e2,(e.cell _ _ e2).trans e4⟩
 |func f cs vs hl hv ih=>exact .func f cs vs hl ih
 |nilfunc=>exact .nilfunc
 |map l b h=>exact .map l b (e.ι _ _ h)
 |nilmap=>exact .nilmap
 |rs l off sz n c b o cap vs T h hb ho hn hc hk=>
  obtain⟨vs',h1,h2⟩:=e.keep l b vs T _ h hb
  exact .rs l off sz n c b o cap vs' T (e.ι _ _ h) h1 ho hn hc (by rw[h2];exact hk)
theorem VRs.mono {B:Nat} {w w':World} {g g':Ghost} (e:Ext B w g w' g') {ds:List D} {vs:List Value} (h:VRs w g ds vs):VRs w' g' ds vs:=⟨h.1,fun j d v h1 h2=>(h.2 j d v h1 h2).mono e⟩
/-! ### Inversion -/
theorem VR.bool_inv {w:World} {g:Ghost} {b:Bool} {v:Value} (h:VR w g (.bool b) v):v=.bool b:=by cases h;rfl
theorem VR.int_inv {w:World} {g:Ghost} {k:IntKind} {n:Int} {v:Value} (h:VR w g (.int k n) v):v=.int k n:=by cases h;rfl
theorem VR.undef_inv {w:World} {g:Ghost} {v:Value} (h:VR w g .undef v):v=Go.undef:=by cases h;rfl
/-! ### A value's cells -/
theorem VR.cells {w:World} {g:Ghost} {d:D} {v:Value} (h:VR w g d v):d.cells.length=v.cells.size∧∀(j:Nat) c u,d.cells[j]?=some c→v.cells[j]?=some u→VR w g c u:=by
 cases h with
 |agg cs vs hl ho hv=>exact⟨hl,hv⟩
 |_=>
  refine⟨rfl,fun j c u h1 h2=>?_⟩
  cases j with
  |zero=>simp[D.cells,Value.cells]at h1 h2;subst h1;subst h2;constructor<;>assumption
  |succ j=>simp[D.cells]at h1
/-! ### The store -/
inductive Box where
 |cells (cs:List D)
 /-- .. of which only the first cells are told -/
 |row (cs:List D)
 /-- A map: its entries, in no order. -/
 |map (kv:List (Int×D))
 /-- .. of which the model's own entries are told -/
 |mapE (kv:List (Int×D)) (es:Array MapEntry) (clock:Nat)
 /-- One goes over such a map: these keys have come, the last one first. -/
 |iter (m:Nat) (es:Array MapEntry) (clock:Nat) (ks:List Int)
 deriving Inhabited
structure Store where
 boxes:Nat→Option Box
 next:Nat
 toks:Nat→Bool
 ntok:Nat
 /-- boxes below are only read; rows below are left alone -/
 lim:Nat
 tlim:Nat
instance:Inhabited Store:=⟨⟨fun _=>none,0,fun _=>false,0,0,0⟩⟩
def Store.empty:Store:=⟨fun _=>none,0,fun _=>false,0,0,0⟩
structure MapR (w:World) (g:Ghost) (kv:List (Int×D)) (es:Array MapEntry) (clock:Nat):Prop where
 own:∃kv0:List (Int×D),kv0.Perm kv∧kv0.length=es.size∧∀(j:Nat) k d e,kv0[j]?=some (k,d)→es[j]?=some e→e.key=.int .i64 k∧VR w g d e.val
 keys:(kv.map (·.1)).Nodup
 born:∀x∈es.toList,x.born<clock
 stamps:(es.toList.map (·.born)).Nodup
def BoxR (w:World) (g:Ghost) (b:Nat):Box→Prop
 | .cells cs=>∃(vs:Array Value) (T:TypeId),w.heap[b]?=some (.cells vs T (0,0))∧cs.length=vs.size∧(∀c∈cs,c.one=true)∧(∀(j:Nat) c v,cs[j]?=some c→vs[j]?=some v→VR w g c v)
 | .row cs=>∃(vs:Array Value) (T:TypeId),w.heap[b]?=some (.cells vs T (0,0))∧cs.length≤vs.size∧(∀c∈cs,c.one=true)∧(∀(j:Nat) c v,cs[j]?=some c→vs[j]?=some v→VR w g c v)
 | .map kv=>∃(es:Array MapEntry) (clock:Nat),w.heap[b]?=some (.map es clock)∧MapR w g kv es clock
 | .mapE kv es clock=>w.heap[b]?=some (.map es clock)∧MapR w g kv es clock
 | .iter m es clock ks=>∃(bm:Nat) (seen:Array Nat),g.ι m=some bm∧w.heap[b]?=some (.mapIter (some bm) clock seen clock)∧
   (∀e∈es.toList,∀k,e.key=.int .i64 k→(seen.contains e.born=true↔k∈ks))∧∀k ks',ks=k::ks'→∃e∈es.toList,∃seen0:Array Nat,e.key=.int .i64 k∧seen=seen0.push e.born
structure Rel (B:Nat) (w:World) (g:Ghost) (st:Store):Prop where
 base:B≤w.heap.size
 S:∀b o,g.S b o→b<w.heap.size
 box:∀l x,st.boxes l=some x→∃b,g.ι l=some b∧B≤b∧(∀o,¬g.S b o)∧BoxR w g b x
 inj:∀l l' b x x',st.boxes l=some x→st.boxes l'=some x'→g.ι l=some b→g.ι l'=some b→l=l'
 tok:∀t r,st.toks t=true→g.τ t=some r→∃cs,B≤r.b∧w.heap[r.b]?=some (.cells cs r.T (0,0))∧cs.size=r.n∧r.e≤r.n∧(∀o,r.e≤o→¬g.S r.b o)
 uniq:∀t t' r r',st.toks t=true→st.toks t'=true→g.τ t=some r→g.τ t'=some r'→r.b=r'.b→t=t'
 apart:∀t r l b,st.toks t=true→g.τ t=some r→g.ι l=some b→r.b≠b
 newι:∀l,st.next≤l→g.ι l=none
 newτ:∀t,st.ntok≤t→g.τ t=none
 ltι:∀l b,g.ι l=some b→b<w.heap.size
 limι:st.lim≤st.next
 limτ:st.tlim≤st.ntok
structure Step (B:Nat) (w:World) (g:Ghost) (st:Store) (w':World) (g':Ghost) (st':Store):Prop where
 ext:Ext B w g w' g'
 rel:Rel B w' g' st'
 lock:∀l b x,l<st.lim→st.boxes l=some x→g.ι l=some b→w'.heap[b]?=w.heap[b]?
 lockτ:∀t r,t<st.tlim→st.toks t=true→g.τ t=some r→w'.heap[r.b]?=w.heap[r.b]?
 eqι:∀l,l<st.next→g'.ι l=g.ι l
 eqτ:∀t,t<st.ntok→g'.τ t=g.τ t
 lim:st'.lim=st.lim
 tlim:st'.tlim=st.tlim
 next:st.next≤st'.next
 ntok:st.ntok≤st'.ntok
 boxes:∀l,l<st.lim→st'.boxes l=st.boxes l
 toks:∀t,t<st.tlim→st'.toks t=st.toks t
theorem Step.refl {B:Nat} {w:World} {g:Ghost} {st:Store} (h:Rel B w g st):Step B w g st w g st:=
 ⟨.refl _ _ _,h,fun _ _ _ _ _ _=>rfl,fun _ _ _ _ _=>rfl,fun _ _=>rfl,fun _ _=>rfl,rfl,rfl,Nat.le_refl _,Nat.le_refl _,fun _ _=>rfl,fun _ _=>rfl⟩
theorem Step.trans {B:Nat} {w w1 w2:World} {g g1 g2:Ghost} {st st1 st2:Store} (hr:Rel B w g st) (h:Step B w g st w1 g1 st1) (k:Step B w1 g1 st1 w2 g2 st2):Step B w g st w2 g2 st2 where
 ext:=h.ext.trans k.ext
 rel:=k.rel
 lock l b x hl hx hb:=(k.lock l b x (h.lim▸hl) ((h.boxes l hl).trans hx) (h.ext.ι l b hb)).trans (h.lock l b x hl hx hb)
 lockτ t r ht hk hr':=(k.lockτ t r (h.tlim▸ht) ((h.toks t ht).trans hk) (h.ext.τ t r hr')).trans (h.lockτ t r ht hk hr')
 eqι l hl:=(k.eqι l (Nat.lt_of_lt_of_le hl h.next)).trans (h.eqι l hl)
 eqτ t ht:=(k.eqτ t (Nat.lt_of_lt_of_le ht h.ntok)).trans (h.eqτ t ht)
 lim:=k.lim.trans h.lim
 tlim:=k.tlim.trans h.tlim
 next:=Nat.le_trans h.next k.next
 ntok:=Nat.le_trans h.ntok k.ntok
 boxes l hl:=(k.boxes l (h.lim▸hl)).trans (h.boxes l hl)
 toks t ht:=(k.toks t (h.tlim▸ht)).trans (h.toks t ht)
end Go.Ev
