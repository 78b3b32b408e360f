/-
  Rules to go over a map, in whatever order; from the evaluator's runs to what code comes to; a function that is known to hold, from its code.
-/
import Derived.Test.YtcejefmekkiboaaEvSmX1
import Derived.Test.YtcejefmekkiboaaEvEvX11
import Derived.Maps.RangeRun
set_option linter.unusedVariables false
set_option linter.unusedSimpArgs false
set_option linter.unnecessarySimpa false
namespace Go.Ev
open Go.RowKit
section
variable {w w':World} {g g':Ghost} {st st':Store} {B:Nat}
theorem Rel.mapE (h:Rel B w g st) {p:Nat} {kv:List (Int×D)} (hb:st.boxes p=some (.map kv)):
  ∃es cl,Rel B w g {st with boxes:=ap st.boxes p (some (.mapE kv es cl))}∧∃b,g.ι p=some b∧w.heap[b]?=some (.map es cl):=by
 obtain⟨b,h1,h2,h3,es,cl,h4,h5⟩:=h.box p _ hb
 have live:∀l x,ap st.boxes p (some (.mapE kv es cl)) l=some x→∃y,st.boxes l=some y:=fun l x hx=>by
  by_cases e:l=p
  ·subst e;exact⟨_,hb⟩
  ·rw[ab _ _ e]at hx;exact⟨_,hx⟩
 refine⟨es,cl,⟨h.base,h.S,fun l x hx=>?_,fun l l' b x x' hx hx' p q=>?_,h.tok,h.uniq,h.apart,h.newι,h.newτ,h.ltι,h.limι,h.limτ⟩,b,h1,h4⟩
 ·by_cases e:l=p
  ·subst e
   simp only[ae]at hx
   cases hx
   exact⟨b,h1,h2,h3,h4,h5⟩
  ·simp only[ab _ _ e]at hx
   exact h.box l x hx
 ·obtain⟨y,hy⟩:=live l x hx
  obtain⟨y',hy'⟩:=live l' x' hx'
  exact h.inj l l' b y y' hy hy' p q
theorem MapR.perm {a b:List (Int×D)} {es:Array MapEntry} {cl:Nat} (h:MapR w g a es cl) (hp:a.Perm b):MapR w g b es cl:=by
 obtain⟨⟨kv0,h1,h2⟩,h3,h4,h5⟩:=h
 exact⟨⟨kv0,h1.trans hp,h2⟩,(hp.map _).nodup_iff.1 h3,h4,h5⟩
theorem Step.forget (h:Rel B w g st) {p:Nat} {kv:List (Int×D)} {es:Array MapEntry} {cl:Nat} (hb:st.boxes p=some (.map kv)) {s1:Store} (hs:Step B w g {st with boxes:=ap st.boxes p (some (.mapE kv es cl))} w' g' s1) (hp:s1.boxes p=some (.mapE kv es cl)∨s1.boxes p=some (.map kv))
  {s2:Store} (h1:s2.lim=s1.lim) (h2:s2.tlim=s1.tlim) (h3:s2.next=s1.next) (h4:s2.ntok=s1.ntok) (h5:s2.toks=s1.toks) (h6:s2.boxes p=some (.map kv)) (h7:∀l x,l≠p→s2.boxes l=some x→s1.boxes l=some x∨∃a b,x=.map b∧s1.boxes l=some (.map a)∧a.Perm b) (h8:∀l,l<st.lim→l≠p→s2.boxes l=s1.boxes l):Step B w g st w' g' s2:=by
 have hr:=hs.rel
 have live:∀l x,s2.boxes l=some x→∃y,s1.boxes l=some y:=fun l x hx=>by
  by_cases e:l=p
  ·subst e;rcases hp with hp|hp<;>exact⟨_,hp⟩
  ·rcases h7 l x e hx with h|⟨a,b,_,h,_⟩<;>exact⟨_,h⟩
 have hold:∀l x,st.boxes l=some x→∃y,ap st.boxes p (some (.mapE kv es cl)) l=some y:=fun l x hx=>by
  by_cases e:l=p
  ·subst e;exact⟨_,ae _ _ _⟩
  ·exact⟨x,(ab _ _ e).trans hx⟩
 refine⟨hs.ext,⟨hr.base,hr.S,fun l x hx=>?_,fun l l' b x x' hx hx' q q'=>?_,fun t r ht=>hr.tok t r (by rw[←h5];exact ht),fun t t' r r' a b=>hr.uniq t t' r r' (by rw[←h5];exact a) (by rw[←h5];exact b),fun t r l b a=>hr.apart t r l b (by rw[←h5];exact a),fun l hl=>hr.newι l (by rw[←h3];exact hl),fun t ht=>hr.newτ t (by rw[←h4];exact ht),hr.ltι,by rw[h1,h3];exact hr.limι,by rw[h2,h4];exact hr.limτ⟩,fun l b x hl hx hi=>?_,fun t r ht=>hs.lockτ t r ht,hs.eqι,hs.eqτ,h1.trans hs.lim,h2.trans hs.tlim,by rw[h3];exact hs.next,by rw[h4];exact hs.ntok,fun l hl=>?_,fun t ht=>by rw[h5];exact hs.toks t ht⟩
 ·by_cases e:l=p
  ·subst e
   rw[h6]at hx
   cases hx
   rcases hp with hp|hp
   ·obtain⟨b,k1,k2,k3,k4⟩:=hr.box l _ hp
    exact⟨b,k1,k2,k3,es,cl,k4⟩
   ·exact hr.box l _ hp
  ·rcases h7 l x e hx with h|⟨a,b,rfl,h,hp⟩
   ·exact hr.box l x h
   ·obtain⟨b',k1,k2,k3,es',cl',k4,k5⟩:=hr.box l _ h
    exact⟨b',k1,k2,k3,es',cl',k4,k5.perm hp⟩
 ·obtain⟨y,hy⟩:=live l x hx
  obtain⟨y',hy'⟩:=live l' x' hx'
  exact hr.inj l l' b y y' hy hy' q q'
 ·obtain⟨y,hy⟩:=hold l x hx
  exact hs.lock l b y hl hy hi
 ·by_cases e:l=p
  ·subst e;rw[h6,hb]
  ·rw[h8 l hl e,hs.boxes l hl];exact ab _ _ e
end
end Go.Ev
namespace Go.Sm
open Go.Ev
open Go.RowKit
section
variable {Γ:Nat→Option FD} {ρ:Nat→D} {st:Store} {Q:X→(Nat→D)→Store→Prop}
def BC:C→Bool
 | .loop _=>false
 | .again _ _=>false
 |_=>true
theorem HQ {c:C} (hc:BC c=true) (h:Go.Ev.WC Γ c ρ st Q):WC Γ c ρ st Q:=by
 obtain⟨x,ρ',st',⟨N,hN⟩,hQ⟩:=h
 have hN:=hN N (Nat.le_refl _)
 intro P hk mu nt B w g a he hn hrel
 cases c with
 |loop b=>cases hc
 |again l r=>cases hc
 |_=>exact fun c hcc=>wp_mono ((o8 hk.known hk.mixed N).code hN hcc he hn hrel) (fun e a' w' hp=>⟨x,ρ',st',hQ,hp⟩)
theorem Ie {l:List Op1} {R:(Nat→D)→Store→List Fl→Prop} (h:Go.Ev.WS Γ false l ρ st R):WS Γ false l ρ st R:=by
 obtain⟨ρ',st',fl,h1,h2⟩:=h
 obtain⟨N,hN⟩:=(by simpa using h1:Evt fun n=>bt Γ n false l ρ st=some (ρ',st'))
 intro P hk mu nt ops os idx hc hi B w g a he hn hrel Q hQ
 exact(o8 hk.known hk.mixed N).ops (hN N (Nat.le_refl _)) hc hi he hn hrel (fun a' w' hp=>hQ a' w' ρ' st' fl h2 hp)
def lf:O→Bool
 | .rangeM _| .nextM _| .entryM _=>true
 |_=>false
def mg:Op→Bool
 | .range _ _| .next _ _| .entry _=>true
 |_=>false
theorem DQ {α:Type} {x:O} {m:Option α} {f:α→Option O} (h:∀a,f a=some x→lf x=false):m.bind f=some x→lf x=false:=fun e=>by
 obtain⟨a,_,h2⟩:=Option.bind_eq_some_iff.1 e
 exact h a h2
theorem F4 {α:Type} {x:O} {m:Option α} {f:α→O} (h:∀a,lf (f a)=false):m.map f=some x→lf x=false:=fun e=>by
 obtain⟨a,_,h2⟩:=Option.map_eq_some_iff.1 e
 rw[←h2]
 exact h a
theorem vy {P:Program} {x:O} {b:Builtin} {args:List Operand} {tys:List TypeId}:kn P b args tys=some x→lf x=false:=by
 cases b<;>simp only[kn,mG,mD,Io,gD,Option.bind_eq_bind]<;>
  repeat' first
   |(intro h;cases h;done)
   |(intro h;cases h;rfl)
   |(apply DQ;intro _)
   |(apply F4;intro _;rfl)
   |split
theorem kU {P:Program} {x:O} {op:Op} (hn:mg op=false):aq P op=some x→lf x=false:=by
 cases op<;>(try (simp[mg]at hn;done))<;>simp only[aq,Option.bind_eq_bind]<;>
  repeat' first
   |exact vy
   |(intro h;cases h;done)
   |(intro h;cases h;rfl)
   |(apply DQ;intro _)
   |(apply F4;intro _;rfl)
   |(exfalso;rename_i h _ _;cases h;done)
   |(exfalso;rename_i h _;cases h;done)
   |(exfalso;rename_i h;cases h;done)
   |(exfalso;simp_all;done)
   |split
theorem zX {P:Program} {op:Op} {x:A} (h:aq P op=some (.rangeM x)):∃t y kt e,op=.range t y∧P.underlying t=some (.map kt e)∧aT y=some x:=by
 cases hi:mg op with
 |false=>have:=kU hi h;simp[lf]at this
 |true=>
  cases op<;>simp only[mg,Bool.false_eq_true,reduceCtorEq]at hi
  ·rename_i t y
   simp only[aq]at h
   split at h<;>try contradiction
   rename_i kt e hT
   split at h<;>try contradiction
   obtain⟨y',h1,h2⟩:=Option.map_eq_some_iff.1 h
   cases h2
   exact⟨t,y,kt,e,rfl,hT,h1⟩
  ·obtain⟨_,_,h,_⟩:=kx h;cases h
  ·obtain⟨_,_,h⟩:=Hx h;cases h
theorem AR {P:Program} {op:Op} {x:A} (h:aq P op=some (.nextM x)):∃y,op=.next y false∧aT y=some x:=by
 cases hi:mg op with
 |false=>have:=kU hi h;simp[lf]at this
 |true=>
  cases op<;>simp only[mg,Bool.false_eq_true,reduceCtorEq]at hi
  ·obtain⟨_,_,h⟩:=la h;cases h
  ·obtain⟨y',h1,h2,h3⟩:=kx h
   cases h2
   subst h3
   exact⟨_,rfl,h1⟩
  ·obtain⟨_,_,h⟩:=Hx h;cases h
theorem zM {P:Program} {op:Op} {x:A} (h:aq P op=some (.entryM x)):∃y,op=.entry y∧aT y=some x:=by
 cases hi:mg op with
 |false=>have:=kU hi h;simp[lf]at this
 |true=>
  cases op<;>simp only[mg,Bool.false_eq_true,reduceCtorEq]at hi
  ·obtain⟨_,_,h⟩:=la h;cases h
  ·obtain⟨_,_,h,_⟩:=kx h;cases h
  ·obtain⟨y',h1,h2⟩:=Hx h
   cases h2
   exact⟨_,rfl,h1⟩
variable {R:(Nat→D)→Store→List Fl→Prop}
theorem H6 {o1:Op1} {l:List Op1} {x:A} {m:Nat} {kv:List (Int×D)} {es:Array MapEntry} {cl:Nat} {f0:Fl} (hg:ao ρ o1.guard=some true) (ho:o1.op=.rangeM x) (hx:x.ev ρ=.map m) (hb:st.boxes m=some (.mapE kv es cl))
  (h:WS Γ false l (cy ρ o1.dst (.ptr st.next 0)) {st with boxes:=ap st.boxes st.next (some (.iter m es cl [])),next:=st.next+1} (fun ρ1 st1 fl=>R ρ1 st1 (f0::fl))):WS Γ false (o1::l) ρ st R:=by
 intro P hk mu nt ops os idx hc hi B w g a he hnt hrel Q hQ
 obtain⟨o,os',i,idx',rfl,hco,hcr,rfl,hoi,hi'⟩:=iY hc hi
 obtain⟨hw,hcop,hd,hdn⟩:=dK hco he hg (fun _=>by rw[ho];simp)
 have hcop:=hcop rfl
 simp only[wpOps,hoi,hw,if_true]
 left
 rw[ho]at hcop
 obtain⟨t,y,kt,e,hop,hT,hy⟩:=zX hcop
 have h1:=co he hy
 rw[hx]at h1
 obtain⟨b,hbi,hu⟩:=h1.map_inv
 obtain⟨b',hb',_,_,hh,hM⟩:=hrel.box m _ hb
 rw[hbi]at hb'
 cases hb'
 have hrun:(execOp a.eval o).run P w=.ok (.value (.pointer (some ⟨w.heap.size,0,none⟩))) (w.alloc (.mapIter (some b) cl #[] cl)):=by
  simp[execOp,hop,hu,run_range_map w t kt e b es cl hT hh]
 have hs:=Step.newBox hrel (.mapIter (some b) cl #[] cl) (x:=.iter m es cl []) ⟨b,#[],hbi,heap_alloc_new w _,fun e _ k _=>by simp,fun k ks' h=>by cases h⟩
 unfold Oper.wp
 rw[hrun]
 exact fB (v:=.ptr st.next 0) hk h hcr hi' he hnt hrel hQ hd hdn (.ptr _ 0 w.heap.size (by simp[ae])) hs
theorem ED {w:World} {g:Ghost} {kv:List (Int×D)} {es:Array MapEntry} {cl:Nat} (h:MapR w g kv es cl) {e:MapEntry} (he:e∈es.toList):∃k d,(k,d)∈kv∧e.key=.int .i64 k∧VR w g d e.val:=by
 obtain⟨kv0,hp,hl,hv⟩:=h.own
 obtain⟨j,hj⟩:=List.getElem?_of_mem he
 rw[Array.getElem?_toList]at hj
 have hjl:j<kv0.length:=by
  have:=(Array.getElem?_eq_some_iff.1 hj).1
  omega
 obtain⟨⟨k,d⟩,hkd⟩:∃p,kv0[j]?=some p:=⟨_,List.getElem?_eq_getElem hjl⟩
 obtain⟨h1,h2⟩:=hv j k d e hkd hj
 exact⟨k,d,hp.mem_iff.1 (List.mem_of_getElem? hkd),h1,h2⟩
theorem vw {w:World} {g:Ghost} {kv:List (Int×D)} {es:Array MapEntry} {cl:Nat} (h:MapR w g kv es cl) {k:Int} {d:D} (he:(k,d)∈kv):∃e∈es.toList,e.key=.int .i64 k∧VR w g d e.val:=by
 obtain⟨kv0,hp,hl,hv⟩:=h.own
 obtain⟨j,hj⟩:=List.getElem?_of_mem (hp.mem_iff.2 he)
 have hjl:j<es.size:=by
  have:=(List.getElem?_eq_some_iff.1 hj).1
  omega
 have he':es[j]?=some es[j]:=Array.getElem?_eq_getElem hjl
 obtain⟨h1,h2⟩:=hv j k d _ hj he'
 exact⟨es[j],List.mem_of_getElem? (by rw[Array.getElem?_toList];exact he'),h1,h2⟩
theorem sQ {w:World} {g:Ghost} {kv:List (Int×D)} {es:Array MapEntry} {cl:Nat} (h:MapR w g kv es cl) {e e':MapEntry} (he:e∈es.toList) (he':e'∈es.toList) (hk:e.key=e'.key):e=e':=by
 obtain⟨kv0,hp,hl,hv⟩:=h.own
 have hn:(kv0.map (·.1)).Nodup:=(hp.map _).nodup_iff.2 h.keys
 obtain⟨i,hi⟩:=List.getElem?_of_mem he
 obtain⟨j,hj⟩:=List.getElem?_of_mem he'
 rw[Array.getElem?_toList]at hi hj
 have hil:i<kv0.length:=by have:=(Array.getElem?_eq_some_iff.1 hi).1;omega
 have hjl:j<kv0.length:=by have:=(Array.getElem?_eq_some_iff.1 hj).1;omega
 have a1:=(hv i kv0[i].1 kv0[i].2 e (List.getElem?_eq_getElem hil) hi).1
 have a2:=(hv j kv0[j].1 kv0[j].2 e' (List.getElem?_eq_getElem hjl) hj).1
 rw[a1,a2]at hk
 have hkk:kv0[i].1=kv0[j].1:=by injection hk
 have:i=j:=by
  have:=List.pairwise_iff_getElem.1 hn
  rcases Nat.lt_trichotomy i j with h|h|h
  ·exact absurd (by rw[List.getElem_map,List.getElem_map];exact hkk) (this i j (by simpa using hil) (by simpa using hjl) h)
  ·exact h
  ·exact absurd (by rw[List.getElem_map,List.getElem_map];exact hkk.symm) (this j i (by simpa using hjl) (by simpa using hil) h)
 subst this
 rw[hi]at hj
 exact Option.some.inj hj
theorem Gi {w:World} {g:Ghost} {l:Nat} {v:Value} (h:VR w g (.ptr l 0) v):∃b,g.ι l=some b∧v=.pointer (some ⟨b,0,none⟩):=by
 cases h
 exact⟨_,‹_›,rfl⟩
theorem HL {o1:Op1} {l:List Op1} {x:A} {it m:Nat} {kv:List (Int×D)} {es:Array MapEntry} {cl:Nat} {ks:List Int} {f0:Fl} (hg:ao ρ o1.guard=some true) (ho:o1.op=.nextM x) (hx:x.ev ρ=.ptr it 0) (hi:st.boxes it=some (.iter m es cl ks)) (hb:st.boxes m=some (.mapE kv es cl)) (hlim:st.lim≤it)
  (h0:(∀k d,(k,d)∈kv→k∈ks)→WS Γ false l (cy ρ o1.dst (.tuple [.bool false])) st (fun ρ1 st1 fl=>R ρ1 st1 (f0::fl)))
  (h1:∀k d,(k,d)∈kv→k∉ks→WS Γ false l (cy ρ o1.dst (.tuple [.bool true,.int .i64 k,d])) {st with boxes:=ap st.boxes it (some (.iter m es cl (k::ks)))} (fun ρ1 st1 fl=>R ρ1 st1 (f0::fl))):WS Γ false (o1::l) ρ st R:=by
 intro P hk mu nt ops os idx hc hi0 B w g a he hnt hrel Q hQ
 obtain⟨o,os',i,idx',rfl,hco,hcr,rfl,hoi,hi'⟩:=iY hc hi0
 obtain⟨hw,hcop,hd,hdn⟩:=dK hco he hg (fun _=>by rw[ho];simp)
 have hcop:=hcop rfl
 simp only[wpOps,hoi,hw,if_true]
 left
 rw[ho]at hcop
 obtain⟨y,hop,hy⟩:=AR hcop
 have hv:=co he hy
 rw[hx]at hv
 obtain⟨r,hri,hu⟩:∃r,g.ι it=some r∧a.eval y=.pointer (some ⟨r,0,none⟩):=by
  exact Gi hv
 obtain⟨r',hr',hB,hS,bm,seen,hmi,hrh,hseen,hcur⟩:=hrel.box it _ hi
 rw[hri]at hr'
 cases hr'
 obtain⟨b',hb',_,_,hh,hM⟩:=hrel.box m _ hb
 rw[hmi]at hb'
 cases hb'
 have hex:(execOp a.eval o).run P w=((Instr.next (.pointer (some ⟨r,0,none⟩)) false o.type).run P w).andThen fun v w=>.ok (.value v) w:=by
  simp[execOp,hop,hu]
 unfold Oper.wp
 rw[hex]
 rcases run_next_at (P:=P) w o.type r bm cl cl seen es cl hrh hh hM.born (Nat.le_refl _)with⟨hz,hrun⟩|⟨e,hel,w1,hw1,hrun⟩
 ·rw[hrun]
  refine fB (v:=.tuple [.bool false]) hk (h0 fun k d hkd=>?_) hcr hi' he hnt hrel hQ hd hdn (.tuple _ _ rfl (fun j c u p q=>?_)) (.refl hrel)
  ·obtain⟨e,he1,he2,_⟩:=vw hM hkd
   exact(hseen e he1 k he2).1 (all_seen es seen hz e he1)
  ·match j with
   |0=>simp at p q;subst p;subst q;exact .bool _
   |j+1=>simp at p
 ·rw[hrun]
  obtain⟨hem,hes⟩:=mem_left hel
  obtain⟨k,d,hkd,hek,hvd⟩:=ED hM hem
  have hnk:k∉ks:=fun hc=>by
   have:=(hseen e hem k hek).2 hc
   rw[hes]at this
   cases this
  have hB1:Below w.heap.size w w1:=by
   rcases hw1 with rfl|rfl
   ·exact Below.refl _ _
   ·exact cP w
  have hs1:=Step.below_ hrel hB1
  have hr1:w1.heap[r]?=some (.mapIter (some bm) cl seen cl):=by rcases hw1 with rfl|rfl<;>exact hrh
  have hrlt:r<w1.heap.size:=(Array.getElem?_eq_some_iff.1 hr1).1
  have ht:Go.Ev.Touch r w1 (ChangeMaps.setBlock w1 r (.mapIter (some bm) cl (seen.push e.born) cl)):=⟨rfl,rfl,rfl,by simp[ChangeMaps.setBlock],fun j hj=>by simp[ChangeMaps.setBlock,Array.getElem?_setIfInBounds_ne (Ne.symm hj)],fun vs T fr h=>by rw[hr1]at h;cases h⟩
  have hat:(ChangeMaps.setBlock w1 r (.mapIter (some bm) cl (seen.push e.born) cl)).heap[r]?=some (.mapIter (some bm) cl (seen.push e.born) cl):=by simp[ChangeMaps.setBlock,hrlt]
  have hs2:=Step.setBox (x:=.iter m es cl (k::ks)) hs1.rel hi hri (Nat.not_lt.2 hlim) ht ⟨bm,seen.push e.born,hmi,hat,fun e' he' k' hk'=>by
   rw[contains_push]
   simp only[Bool.or_eq_true,beq_iff_eq,List.mem_cons]
   constructor
   ·rintro (h|h)
    ·exact .inr ((hseen e' he' k' hk').1 h)
    ·have:=born_inj hM.stamps he' hem h
     subst this
     rw[hek]at hk'
     left
     injection hk' with _ hk'
     exact hk'.symm
   ·rintro (rfl|h)
    ·right
     rw[sQ hM he' hem (hk'.trans hek.symm)]
    ·exact .inl ((hseen e' he' k' hk').2 h),fun k' ks' hks=>by
   cases hks
   exact⟨e,hem,seen,hek,rfl⟩⟩
  have hs:=hs1.trans hrel hs2
  refine fB (v:=.tuple [.bool true,.int .i64 k,d]) hk (h1 k d hkd hnk) hcr hi' he hnt hrel hQ hd hdn (.tuple _ _ rfl (fun j c u p q=>?_)) hs
  match j with
  |0=>simp at p q;subst p;subst q;exact .bool _
  |1=>simp at p q;subst p;subst q;rw[hek];exact .int _ _
  |2=>simp at p q;subst p;subst q;exact hvd.mono hs.ext
  |j+3=>simp at p
theorem HZ {o1:Op1} {l:List Op1} {x:A} {it m:Nat} {kv:List (Int×D)} {es:Array MapEntry} {cl:Nat} {k:Int} {d:D} {ks:List Int} {f0:Fl} (hg:ao ρ o1.guard=some true) (ho:o1.op=.entryM x) (hx:x.ev ρ=.ptr it 0) (hi:st.boxes it=some (.iter m es cl (k::ks))) (hb:st.boxes m=some (.mapE kv es cl)) (hkd:(k,d)∈kv)
  (h:WS Γ false l (cy ρ o1.dst (.tuple [.int .i64 k,d])) st (fun ρ1 st1 fl=>R ρ1 st1 (f0::fl))):WS Γ false (o1::l) ρ st R:=by
 intro P hk mu nt ops os idx hc hi0 B w g a he hnt hrel Q hQ
 obtain⟨o,os',i,idx',rfl,hco,hcr,rfl,hoi,hi'⟩:=iY hc hi0
 obtain⟨hw,hcop,hd,hdn⟩:=dK hco he hg (fun _=>by rw[ho];simp)
 have hcop:=hcop rfl
 simp only[wpOps,hoi,hw,if_true]
 left
 rw[ho]at hcop
 obtain⟨y,hop,hy⟩:=zM hcop
 have hv:=co he hy
 rw[hx]at hv
 obtain⟨r,hri,hu⟩:∃r,g.ι it=some r∧a.eval y=.pointer (some ⟨r,0,none⟩):=by
  exact Gi hv
 obtain⟨r',hr',hB,hS,bm,seen,hmi,hrh,hseen,hcur⟩:=hrel.box it _ hi
 rw[hri]at hr'
 cases hr'
 obtain⟨b',hb',_,_,hh,hM⟩:=hrel.box m _ hb
 rw[hmi]at hb'
 cases hb'
 obtain⟨e,hem,seen0,hek,rfl⟩:=hcur k ks rfl
 obtain⟨e',hem',hek',hvd⟩:=vw hM hkd
 have:e'=e:=sQ hM hem' hem (hek'.trans hek.symm)
 subst this
 have hrun:(execOp a.eval o).run P w=.ok (.value (.tuple #[e'.key,e'.val])) w:=by
  simp[execOp,hop,hu,run_entry_at (P:=P) w r bm cl seen0 es cl e' hrh hh hem hM.stamps]
 unfold Oper.wp
 rw[hrun]
 refine fB (v:=.tuple [.int .i64 k,d]) hk h hcr hi' he hnt hrel hQ hd hdn (.tuple _ _ rfl (fun j c u p q=>?_)) (.refl hrel)
 match j with
 |0=>simp at p q;subst p;subst q;rw[hek];exact .int _ _
 |1=>simp at p q;subst p;subst q;exact hvd
 |j+2=>simp at p
theorem Ig {c:C} (hc:BC c=true) {p:Nat} {kv:List (Int×D)} {es:Array MapEntry} {cl:Nat} (hb:st.boxes p=some (.mapE kv es cl)) (hl:st.lim≤p) (h:WC Γ c ρ {st with boxes:=ap st.boxes p (some (.map kv))} Q):WC Γ c ρ st Q:=by
 have key:∀{B:Nat} {w:World} {g:Ghost},Rel B w g st→Step B w g st w g {st with boxes:=ap st.boxes p (some (.map kv))}:=fun hrel=>by
  obtain⟨b,h1,h2,h3,h4⟩:=hrel.box p _ hb
  exact Step.setBox hrel hb h1 (Nat.not_lt.2 hl) ⟨rfl,rfl,rfl,rfl,fun _ _=>rfl,fun vs T fr h=>⟨vs,h,rfl⟩⟩ ⟨es,cl,h4⟩
 intro P hk mu nt B w g a he hn hrel
 have hs:=key hrel
 have h:=@h P hk mu nt B w g a he hn hs.rel
 cases c with
 |loop b=>cases hc
 |again l r=>cases hc
 |_=>exact fun c hcc=>wp_mono (h c hcc) (fun e a' w' hp=>hp.from hrel hs rfl)
theorem HY {P:Program} (hk:Kn P Γ) {f:Nat} {cf:CF} (hko:aG P f cf.ro cf.mv=some cf) {F:List D→Store→Option (D×Store)}
  (hF:∀ds st r st',(∀l,st.next≤l→st.boxes l=none)→F ds st=some (r,st')→∃p kv,st.boxes p=some (.map kv)∧st'.boxes p=some (.map kv)∧((kv.map (·.1)).Nodup→∀es cl,WC Γ cf.body (enter ds) {st with boxes:=ap st.boxes p (some (.mapE kv es cl))} (fun x ρ1 s1=>(x=.normal∨x=.ret)∧aI ρ1 s1 cf.res=some r∧(s1.boxes p=some (.mapE kv es cl)∨s1.boxes p=some (.map kv))∧st'.lim=s1.lim∧st'.tlim=s1.tlim∧st'.next=s1.next∧st'.ntok=s1.ntok∧st'.toks=s1.toks∧(∀l x,l≠p→st'.boxes l=some x→s1.boxes l=some x∨∃a b,x=.map b∧s1.boxes l=some (.map a)∧a.Perm b)∧∀l,l<st.lim→l≠p→st'.boxes l=s1.boxes l))):PrimSOK P f F:=by
 obtain⟨fn,c,h1,h2,h3,h4,h5⟩:=dm hko
 refine⟨h3,fun B w g st ds vs r st' hrel hv hFF=>?_⟩
 obtain⟨p,kv,hb,hb',hW⟩:=hF ds st r st' (fun l hl=>by
  cases hx:st.boxes l with
  |none=>rfl
  |some x=>
   obtain⟨b,k1,_⟩:=hrel.box l x hx
   rw[hrel.newι l hl]at k1
   cases k1) hFF
 have hnd:(kv.map (·.1)).Nodup:=by
  obtain⟨_,_,_,_,es,cl,_,hM⟩:=hrel.box p _ hb
  exact hM.keys
 obtain⟨es,cl,hrel1,_⟩:=hrel.mapE hb
 refine calls_of_wp h1 h2 (wp_mono (WC.run (hW hnd es cl) hk (EnvR.enter_ hv _) (by simp;omega) hrel1 h4) (fun e a' w' hp=>?_))
 obtain⟨x,ρ1,s1,⟨hx,hres,q0,q1,q2,q3,q4,q5,q6,q7⟩,k1,k2,k3,g1,k4,k5⟩:=hp
 obtain⟨v,r1,r2⟩:=eh h5 hres k4 k5.rel
 have hR:kL B w g st r st' (.returned v) w':=⟨v,g1,rfl,r2,Step.forget hrel hb k5 q0 q1 q2 q3 q4 q5 hb' q6 q7⟩
 rcases hx with rfl|rfl<;>subst k1<;>exact⟨k2,v,r1,hR⟩
end
end Go.Sm
