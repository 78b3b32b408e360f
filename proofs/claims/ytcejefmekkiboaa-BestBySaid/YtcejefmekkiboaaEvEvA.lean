/-
  New rows: literals of slices, append.
-/
import Derived.Test.YtcejefmekkiboaaEvEvW
import Derived.Laws.BitsLemmas
set_option linter.unusedVariables false
set_option linter.unusedSimpArgs false
set_option linter.unnecessarySimpa false
namespace Go.Ev
open Go.RowKit
section
variable {P:Program} {B:Nat} {w w':World} {g g':Ghost} {ρ:Nat→D} {st st':Store} {a:Act} {d:D} {o:Oper} {x:O}
def Ghost.more (g:Ghost) (b lo hi:Nat):Ghost:={g with S:=fun b' o=>g.S b' o∨(b'=b∧lo≤o∧o<hi)}
theorem Step.settle (h:Rel B w g st) {b lo hi:Nat} {vs:Array Value} {T:TypeId} {fr:Nat×Nat} (hB:B≤b) (hb:w.heap[b]?=some (.cells vs T fr)) (hhi:hi≤vs.size) (hι:∀l y,st.boxes l=some y→g.ι l≠some b)
  (hτ:∀t r,st.toks t=true→g.τ t=some r→r.b=b→hi≤r.e):Step B w g st w (g.more b lo hi) st:=by
 have hext:Ext B w g w (g.more b lo hi):=⟨Below.refl _ _,fun _ _ h=>.inl h,fun _ _ _=>rfl,fun _ _=>rfl,fun _ _ h=>h,fun _ _ h=>h,fun b' o hS=>by
  rcases hS with hS|⟨rfl,_,_⟩
  ·exact .inl hS
  ·exact .inr hB,fun _ _ vs _ _ _ h=>⟨vs,h,rfl⟩⟩
 refine⟨hext,⟨h.base,fun b' o hS=>?_,fun l x hx=>?_,h.inj,fun t r p q=>?_,h.uniq,h.apart,h.newι,h.newτ,h.ltι,h.limι,h.limτ⟩,fun _ _ _ _ _ _=>rfl,fun _ _ _ _ _=>rfl,fun _ _=>rfl,fun _ _=>rfl,rfl,rfl,Nat.le_refl _,Nat.le_refl _,fun _ _=>rfl,fun _ _=>rfl⟩
 ·rcases hS with hS|⟨rfl,h1,h2⟩
  ·exact h.S b' o hS
  ·exact(Array.getElem?_eq_some_iff.1 hb).1
 ·obtain⟨b',h1,h2,h3,h4⟩:=h.box l x hx
  refine⟨b',h1,h2,fun o hS=>?_,h4.mono hext rfl⟩
  rcases hS with hS|⟨rfl,_,_⟩
  ·exact h3 o hS
  ·exact hι l x hx h1
 ·obtain⟨cs,h1,h2,h3,h4,h5⟩:=h.tok t r p q
  refine⟨cs,h1,h2,h3,h4,fun o ho hS=>?_⟩
  rcases hS with hS|⟨hb',_,h6⟩
  ·exact h5 o ho hS
  ·have:=hτ t r p q hb'
   omega
theorem Step.tokRow (h:Rel B w g st) {r:RowInfo} {vs:Array Value} (hB:B≤r.b) (hb:w.heap[r.b]?=some (.cells vs r.T (0,0))) (hn:vs.size=r.n) (he:r.e≤r.n) (hS:∀o,r.e≤o→¬g.S r.b o) (hι:∀l,g.ι l≠some r.b)
  (hτ:∀t r',st.toks t=true→g.τ t=some r'→r'.b≠r.b):
  Step B w g st w {g with τ:=ap g.τ st.ntok (some r)} {st with toks:=ap st.toks st.ntok true,ntok:=st.ntok+1}:=by
 have old:∀t r',g.τ t=some r'→t≠st.ntok:=fun t r' ht e=>by subst e;rw[h.newτ _ (Nat.le_refl _)]at ht;cases ht
 have hext:Ext B w g w {g with τ:=ap g.τ st.ntok (some r)}:=⟨Below.refl _ _,fun _ _ h=>h,fun _ _ _=>rfl,fun _ _=>rfl,fun _ _ h=>h,fun t r' ht=>by simpa[ab _ _ (old t r' ht)]using ht,fun _ _ h=>.inl h,fun _ _ vs _ _ _ h=>⟨vs,h,rfl⟩⟩
 refine⟨hext,⟨h.base,h.S,fun l x hx=>?_,h.inj,fun t r' p q=>?_,fun t t' r1 r2 p q s u e=>?_,fun t r' l b p q s=>?_,h.newι,fun t ht=>?_,h.ltι,h.limι,by have:=h.limτ;show st.tlim≤st.ntok+1;omega⟩,fun _ _ _ _ _ _=>rfl,fun _ _ _ _ _=>rfl,fun _ _=>rfl,fun t ht=>?_,rfl,rfl,Nat.le_refl _,by show st.ntok≤st.ntok+1;omega,fun _ _=>rfl,fun t ht=>?_⟩
 ·obtain⟨b',h1,h2,h3,h4⟩:=h.box l x hx
  exact⟨b',h1,h2,h3,h4.mono hext rfl⟩
 ·by_cases e:t=st.ntok
  ·subst e
   simp only[ae]at q
   cases q
   exact⟨vs,hB,hb,hn,he,hS⟩
  ·simp only[ab _ _ e]at p q
   exact h.tok t r' p q
 ·by_cases e1:t=st.ntok<;>by_cases e2:t'=st.ntok
  ·rw[e1,e2]
  ·subst e1
   simp only[ae,ab _ _ e2]at p q s u
   cases s
   exact absurd e.symm (hτ t' r2 q u)
  ·subst e2
   simp only[ae,ab _ _ e1]at p q s u
   cases u
   exact absurd e (hτ t r1 p s)
  ·simp only[ab _ _ e1,ab _ _ e2]at p q s u
   exact h.uniq t t' r1 r2 p q s u e
 ·by_cases e:t=st.ntok
  ·subst e
   simp only[ae]at q
   cases q
   intro e
   exact hι l (by rw[e];exact s)
  ·simp only[ab _ _ e]at p q
   exact h.apart t r' l b p q s
 ·have:t≠st.ntok:=by simp only at ht;omega
  simp only[ab _ _ this]
  exact h.newτ t (by simp only at ht;omega)
 ·have:t≠st.ntok:=by omega
  simp[ab _ _ this]
 ·have:t≠st.ntok:=by have:=h.limτ;omega
  simp[ab _ _ this]
theorem Step.tokBare (h:Rel B w g st):Step B w g st w g {st with toks:=ap st.toks st.ntok true,ntok:=st.ntok+1}:=by
 have none_:g.τ st.ntok=none:=h.newτ _ (Nat.le_refl _)
 have ne_:∀t r,g.τ t=some r→t≠st.ntok:=fun t r ht e=>by subst e;rw[none_]at ht;cases ht
 refine⟨.refl _ _ _,⟨h.base,h.S,h.box,h.inj,fun t r p q=>?_,fun t t' r1 r2 p q s u e=>?_,fun t r' l b p q s=>?_,h.newι,fun t ht=>h.newτ t (by simp only at ht;omega),h.ltι,h.limι,by have:=h.limτ;show st.tlim≤st.ntok+1;omega⟩,fun _ _ _ _ _ _=>rfl,fun _ _ _ _ _=>rfl,fun _ _=>rfl,fun t ht=>rfl,rfl,rfl,Nat.le_refl _,by show st.ntok≤st.ntok+1;omega,fun _ _=>rfl,fun t ht=>?_⟩
 ·simp only[ab _ _ (ne_ t r q)]at p
  exact h.tok t r p q
 ·simp only[ab _ _ (ne_ t r1 s),ab _ _ (ne_ t' r2 u)]at p q
  exact h.uniq t t' r1 r2 p q s u e
 ·simp only[ab _ _ (ne_ t r' q)]at p
  exact h.apart t r' l b p q s
 ·have:t≠st.ntok:=by have:=h.limτ;omega
  simp[ab _ _ this]
theorem Step.kill (h:Rel B w g st) {k:Nat} (hk:st.tlim≤k):Step B w g st w g {st with toks:=ap st.toks k false}:=by
 have live:∀t,ap st.toks k false t=true→st.toks t=true:=fun t ht=>by
  by_cases e:t=k
  ·subst e;simp[ae]at ht
  ·simpa[ab _ _ e]using ht
 refine⟨.refl _ _ _,⟨h.base,h.S,h.box,h.inj,fun t r p q=>h.tok t r (live t p) q,fun t t' r1 r2 p q s u e=>h.uniq t t' r1 r2 (live t p) (live t' q) s u e,fun t r' l b p q s=>h.apart t r' l b (live t p) q s,h.newι,h.newτ,h.ltι,h.limι,h.limτ⟩,fun _ _ _ _ _ _=>rfl,fun _ _ _ _ _=>rfl,fun _ _=>rfl,fun t ht=>rfl,rfl,rfl,Nat.le_refl _,Nat.le_refl _,fun _ _=>rfl,fun t ht=>?_⟩
 have:t≠k:=by omega
 simp[ab _ _ this]
theorem Step.write (h:Rel B w g st) {b:Nat} (hB:B≤b) (hno:∃o,¬g.S b o) (ht:Touch b w w') (hS:∀o,g.S b o→w'.cell? ⟨b,o,none⟩=w.cell? ⟨b,o,none⟩) (hι:∀l,g.ι l≠some b)
  (hτ:∀t r,st.toks t=true→g.τ t=some r→r.b≠b) (hlk:∀t r,t<st.tlim→st.toks t=true→g.τ t=some r→r.b≠b):Step B w g st w' g st:=by
 have hcell:∀b' o,g.S b' o→w'.cell? ⟨b',o,none⟩=w.cell? ⟨b',o,none⟩:=fun b' o hS'=>by
  by_cases e:b'=b
  ·subst e;exact hS o hS'
  ·simp[World.cell?,ht.other b' e]
 have hext:Ext B w g w' g:=⟨⟨ht.os,ht.tape,ht.output,by rw[ht.size];exact Nat.le_refl _,fun k hk=>ht.other k (by omega)⟩,fun _ _ h=>h,hcell,fun b' hb'=>ht.other b' (by rintro rfl;obtain⟨o,ho⟩:=hno;exact ho (hb' o)),fun _ _ h=>h,fun _ _ h=>h,fun _ _ h=>.inl h,fun _ b' vs T fr _ hv=>ht.keep b' vs T fr hv⟩
 refine⟨hext,⟨by rw[ht.size];exact h.base,fun b' o hS'=>?_,fun l x hx=>?_,h.inj,fun t r p q=>?_,h.uniq,h.apart,h.newι,h.newτ,fun l b' p=>by rw[ht.size];exact h.ltι l b' p,h.limι,h.limτ⟩,fun l b' _ _ _ hb'=>?_,fun t r h1 h2 h3=>ht.other _ (hlk t r h1 h2 h3),fun _ _=>rfl,fun _ _=>rfl,rfl,rfl,Nat.le_refl _,Nat.le_refl _,fun _ _=>rfl,fun _ _=>rfl⟩
 ·rw[ht.size];exact h.S b' o hS'
 ·obtain⟨b',h1,h2,h3,h4⟩:=h.box l x hx
  exact⟨b',h1,h2,h3,h4.mono hext (ht.other b' (fun e=>hι l (by rw[←e];exact h1)))⟩
 ·obtain⟨cs,h1,h2,h3⟩:=h.tok t r p q
  exact⟨cs,h1,(ht.other _ (hτ t r p q)).trans h2,h3⟩
 ·exact ht.other b' (fun e=>hι l (by rw[←e];exact hb'))
/-! ### Rows as lists of cells -/
theorem mh {α β:Type} (f:α→List β) (sz:Nat):∀(xs:List α),(∀x∈xs,(f x).length=sz)→∀(i j:Nat),j<sz→(xs.flatMap f)[i*sz+j]?=(xs[i]?).bind fun x=>(f x)[j]?
 |[],_,i,j,_=>by simp
 |x::xs,h,i,j,hj=>by
  have hx:=h x (by simp)
  rw[List.flatMap_cons,List.getElem?_append]
  cases i with
  |zero=>
   rw[if_pos (by rw[hx];omega)]
   simp
  |succ i=>
   rw[if_neg (by rw[hx,Nat.succ_mul];omega),hx,show (i+1)*sz+j - sz=i*sz+j by rw[Nat.succ_mul];omega,mh f sz xs (fun y hy=>h y (by simp[hy])) i j hj]
   simp
theorem gN {α β:Type} (f:α→List β) (sz:Nat):∀(xs:List α),(∀x∈xs,(f x).length=sz)→(xs.flatMap f).length=xs.length*sz
 |[],_=>by simp
 |x::xs,h=>by
  rw[List.flatMap_cons,List.length_append,h x (by simp),gN f sz xs (fun y hy=>h y (by simp[hy])),List.length_cons,Nat.succ_mul]
  omega
theorem kZ {k n sz:Nat} (hz:0<sz) (h:k<n*sz):k / sz<n∧k%sz<sz∧k=k / sz*sz+k%sz:=by
 refine⟨Nat.div_lt_of_lt_mul (by rw[Nat.mul_comm];exact h),Nat.mod_lt _ hz,?_⟩
 have:=Nat.div_add_mod k sz
 rw[Nat.mul_comm]at this
 omega
theorem VR.row {t:Tok} {sz:Nat} {xs:List D} {ad:Addr} {cap:Nat} {cells:List Value} (hz:0<sz) (hsp:ad.spot=none) (hcap:xs.length≤cap) (ht:TokOK g.τ t sz (some ad) xs.length cap)
  (hx:∀x∈xs,x.cells.length=sz∧∀c∈x.cells,c.plain=true) (hl:cells.length=xs.length*sz)
  (hc:∀(k:Nat) v,cells[k]?=some v→g.S ad.block (ad.off+k)∧w.cell? ⟨ad.block,ad.off+k,none⟩=some v)
  (hv:∀(k:Nat) c v,(xs.flatMap D.cells)[k]?=some c→cells[k]?=some v→VR w g c v):VR w g (.slice t sz xs) (.slice (some ad) xs.length cap):=by
 have lt:∀(i:Nat) (x:D) (j:Nat) (c:D),xs[i]?=some x→x.cells[j]?=some c→i<xs.length∧j<sz:=fun i x j c h1 h2=>by
  refine⟨(List.getElem?_eq_some_iff.1 h1).1,?_⟩
  have:=(List.getElem?_eq_some_iff.1 h2).1
  rw[(hx x (List.mem_of_getElem? h1)).1]at this
  exact this
 have cell:∀(i:Nat) (x:D) (j:Nat) (c:D),xs[i]?=some x→x.cells[j]?=some c→cells[i*sz+j]?=some (cells.getD (i*sz+j) Go.undef):=fun i x j c h1 h2=>by
  obtain⟨l1,l2⟩:=lt i x j c h1 h2
  have:i*sz+j<cells.length:=by
   have:=Nat.mul_le_mul_right sz l1
   rw[Nat.succ_mul]at this
   omega
  simp[List.getD,List.getElem?_eq_getElem this]
 refine .slice t sz xs (some ad) xs.length cap (fun i j=>cells.getD (i*sz+j) Go.undef) rfl hcap ht (fun i x h=>hx x (List.mem_of_getElem? h)) (fun i x j c h1 h2=>?_) (fun i x j c h1 h2=>?_)
 ·obtain⟨q1,q2⟩:=hc _ _ (cell i x j c h1 h2)
  exact⟨ad,rfl,q1,hsp,q2⟩
 ·refine hv (i*sz+j) c _ ?_ (cell i x j c h1 h2)
  rw[mh D.cells sz xs (fun x hx'=>(hx x hx').1) i j (lt i x j c h1 h2).2,h1]
  exact h2
theorem VR.cells_of {t:Tok} {sz:Nat} {xs:List D} {v:Value} (hz:0<sz) (h:VR w g (.slice t sz xs) v):∃(A:Option Addr) (cap:Nat) (cells:List Value),v=.slice A xs.length cap∧xs.length≤cap∧TokOK g.τ t sz A xs.length cap∧
  (∀x∈xs,x.cells.length=sz∧∀c∈x.cells,c.plain=true)∧cells.length=xs.length*sz∧
  (∀(k:Nat) v,cells[k]?=some v→∃ad,A=some ad∧ad.spot=none∧g.S ad.block (ad.off+k)∧w.cell? ⟨ad.block,ad.off+k,none⟩=some v)∧
  (∀(k:Nat) c v,(xs.flatMap D.cells)[k]?=some c→cells[k]?=some v→VR w g c v):=by
 obtain⟨A,cap,vals,rfl,hcp,ht,hs,hA,hv⟩:=h.slice_inv
 have hx:∀x∈xs,x.cells.length=sz∧∀c∈x.cells,c.plain=true:=fun x hx=>by
  obtain⟨i,hi,rfl⟩:=List.getElem_of_mem hx
  exact hs i _ (List.getElem?_eq_getElem hi)
 have at_:∀k,k<xs.length*sz→∃x c,xs[k / sz]?=some x∧x.cells[k%sz]?=some c∧(xs.flatMap D.cells)[k]?=some c∧k=k / sz*sz+k%sz:=fun k hk=>by
  obtain⟨l1,l2,l3⟩:=kZ hz hk
  have e1:xs[k / sz]?=some xs[k / sz]:=List.getElem?_eq_getElem l1
  have e2:(xs[k / sz]).cells[k%sz]?=some ((xs[k / sz]).cells[k%sz]'(by rw[(hs _ _ e1).1];exact l2)):=List.getElem?_eq_getElem _
  refine⟨_,_,e1,e2,?_,l3⟩
  conv=>lhs;rw[l3]
  rw[mh D.cells sz xs (fun x hx'=>(hx x hx').1) _ _ l2,e1]
  exact e2
 refine⟨A,cap,(List.range (xs.length*sz)).map fun k=>vals (k / sz) (k%sz),rfl,hcp,ht,hx,by simp,fun k v hk=>?_,fun k c v h1 h2=>?_⟩
 ·simp only[List.getElem?_map,Option.map_eq_some_iff]at hk
  obtain⟨k',hk',rfl⟩:=hk
  have hlt:k<xs.length*sz:=by have:=(List.getElem?_eq_some_iff.1 hk').1;simpa using this
  rw[List.getElem?_range hlt]at hk'
  cases hk'
  obtain⟨x,c,e1,e2,_,e3⟩:=at_ k hlt
  obtain⟨ad,q1,q2,q3,q4⟩:=hA _ x _ c e1 e2
  rw[←e3]at q2 q4
  exact⟨ad,q1,q3,q2,q4⟩
 ·simp only[List.getElem?_map,Option.map_eq_some_iff]at h2
  obtain⟨k',hk',rfl⟩:=h2
  have hlt:k<xs.length*sz:=by have:=(List.getElem?_eq_some_iff.1 hk').1;simpa using this
  rw[List.getElem?_range hlt]at hk'
  cases hk'
  obtain⟨x,c',e1,e2,e4,e3⟩:=at_ k hlt
  rw[e4]at h1
  cases h1
  exact hv _ x _ _ e1 e2
theorem ni {xs:List D} {sz:Nat} (hx:∀x∈xs,x.cells.length=sz∧∀c∈x.cells,c.plain=true):∀c∈xs.flatMap D.cells,c.plain=true:=fun c hc=>by
 obtain⟨x,h1,h2⟩:=List.mem_flatMap.1 hc
 exact(hx x h1).2 c h2
theorem Step.killBox (h:Rel B w g st) {l:Nat} (hl:¬l<st.lim):Step B w g st w g {st with boxes:=ap st.boxes l none}:=by
 have live:∀l' x,ap st.boxes l none l'=some x→st.boxes l'=some x:=fun l' x hx=>by
  by_cases e:l'=l
  ·subst e;simp[ae]at hx
  ·simpa[ab _ _ e]using hx
 refine⟨.refl _ _ _,⟨h.base,h.S,fun l' x hx=>h.box l' x (live l' x hx),fun l1 l2 b x1 x2 h1 h2=>h.inj l1 l2 b x1 x2 (live _ _ h1) (live _ _ h2),h.tok,h.uniq,h.apart,h.newι,h.newτ,h.ltι,h.limι,h.limτ⟩,fun _ _ _ _ _ _=>rfl,fun _ _ _ _ _=>rfl,fun _ _=>rfl,fun _ _=>rfl,rfl,rfl,Nat.le_refl _,Nat.le_refl _,fun l' hl'=>?_,fun _ _=>rfl⟩
 have:l'≠l:=by rintro rfl;exact hl hl'
 simp[ab _ _ this]
theorem CJ {α:Type} (f:Nat→α) (k:Nat) (a b:α):ap (ap f k a) k b=ap f k b:=by
 funext i
 unfold ap
 split<;>rfl
theorem VR.toNo {t:Tok} {sz:Nat} {xs:List D} {v:Value} (h:VR w g (.slice t sz xs) v):VR w g (.slice .no sz xs) v:=by
 obtain⟨A,cap,vals,rfl,hc,h0,hs,hA,hv⟩:=h.slice_inv
 exact .slice .no sz xs A _ cap vals rfl hc trivial hs hA hv
theorem VR.nilExact {sz:Nat} {xs:List D} {v:Value} (h:VR w g (.slice .isnil sz xs) v):VR w g (.slice .exact sz xs) v:=by
 obtain⟨A,cap,vals,rfl,hc,h0,hs,hA,hv⟩:=h.slice_inv
 obtain⟨_,h1,h2⟩:=h0
 exact .slice .exact sz xs A _ cap vals rfl hc (by simp only[TokOK];omega) hs hA hv
theorem yG {sz m:Nat} {Y:D} {ys:List D} (hz:0<sz) (h:lk sz Y st=some (ys,m)) {v:Value} (hv:VR w g Y v) (hrel:Rel B w g st):∃(A:Option Addr) (cap:Nat) (cells:List Value),v=.slice A m cap∧cells.length=m*sz∧ys.length=m*sz∧(∀c∈ys,c.one=true)∧
  (∀(j:Nat) u,cells[j]?=some u→∃ad,A=some ad∧w.cell? (ad.add j)=some u)∧(∀(k:Nat) c u,ys[k]?=some c→cells[k]?=some u→VR w g c u):=by
 cases Y<;>simp only[lk]at h<;>try contradiction
 case slice t s2 xs=>
  split at h<;>try contradiction
  rename_i hc
  simp only[Option.some.injEq,Prod.mk.injEq]at h
  obtain⟨rfl,rfl⟩:=h
  have hv':VR w g (.slice .no sz xs) v:=by
   simp only[Bool.or_eq_true,beq_iff_eq,List.isEmpty_iff]at hc
   rcases hc with rfl|rfl
   ·obtain⟨A,cap,vals,rfl,hcp,hto,_⟩:=hv.slice_inv
    exact .slice .no sz [] A 0 cap (fun _ _=>Go.undef) rfl hcp trivial (fun i x h=>by simp at h) (fun i x j c h=>by simp at h) (fun i x j c h=>by simp at h)
   ·exact hv.toNo
  obtain⟨A,cap,cells,rfl,_,_,hp,hl,hc1,hc2⟩:=hv'.cells_of hz
  refine⟨A,cap,cells,rfl,hl,gN D.cells sz xs (fun x hx=>(hp x hx).1),fun c hc=>D.plain_one (ni hp c hc),fun j u hj=>?_,hc2⟩
  obtain⟨ad,e,h1,_,h3⟩:=hc1 j u hj
  exact⟨ad,e,by rw[dj _ h1];exact h3⟩
 case rs l off s2 n c=>
  split at h<;>try contradiction
  rename_i hs
  have hs:s2=sz:=by simpa using hs
  subst hs
  obtain⟨cs,hcs,h⟩:=Option.bind_eq_some_iff.1 h
  split at h<;>try contradiction
  rename_i hle
  simp only[Option.some.injEq,Prod.mk.injEq]at h
  obtain⟨rfl,rfl⟩:=h
  obtain⟨b,o,cap,vs,T,rfl,hb,hh,hoo,hn,hc,hk⟩:=hv.rs_inv
  obtain⟨vs',T',hh',hl,ho',hvv,_⟩:=mz hrel hcs hb
  rw[hh]at hh'
  cases hh'
  refine⟨_,cap,(vs.toList.drop off).take (n*s2),rfl,by simp;omega,by simp;omega,fun c hc=>ho' c (List.mem_of_mem_drop (List.mem_of_mem_take hc)),fun j u hj=>?_,fun k c u p q=>?_⟩
  ·have hjl:j<n*s2:=by have:=(List.getElem?_eq_some_iff.1 hj).1;simp at this;omega
   have h0:o=off:=by
    rcases hoo with h|h
    ·exact h
    ·subst h
     have:n=0:=by omega
     subst this
     omega
   subst h0
   refine⟨_,rfl,?_⟩
   rw[List.getElem?_take_of_lt hjl,List.getElem?_drop]at hj
   rw[dj _ rfl,bK hh]
   simpa using hj
  ·have hkl:k<n*s2:=by have:=(List.getElem?_eq_some_iff.1 p).1;simp at this;omega
   rw[List.getElem?_take_of_lt hkl,List.getElem?_drop]at p q
   have:=hvv _ c p
   have e:vs.getD (off+k) Go.undef=u:=by
    have:vs[off+k]?=some u:=by simpa using q
    simp[Array.getD_eq_getD_getElem?,this]
   rwa[e]at this
theorem vY {t e:TypeId} {i:TypeInfo} (ht:P.underlying t=some (.slice e)) (hi:P.info? e=some i) {b o n m cap:Nat} {vs:Array Value} {T:TypeId} (hh:w.heap[b]?=some (.cells vs T (0,0))) {A2:Option Addr} {cap2:Nat} {ncells:List Value}
  (hnl:ncells.length=m*i.size) (hnews:∀(j:Nat) u,ncells[j]?=some u→∃ad,A2=some ad∧w.cell? (ad.add j)=some u) (hone:∀u∈ncells,u.oneCell'=true) (hm:0<ncells.length) (hroom:n+m≤cap) (hfit:o+n*i.size+ncells.length≤vs.size) (ty:TypeId):
  (Builtin.append_ #[t,t] ty #[.slice (some ⟨b,o,none⟩) n cap,.slice A2 m cap2]).run P w=.ok (.slice (some ⟨b,o,none⟩) (n+m) cap) (w.setRow b (vs.toList.take (o+n*i.size)++ncells++vs.toList.drop (o+n*i.size+ncells.length)).toArray):=by
 obtain⟨a2,rfl,_⟩:=hnews 0 _ (List.getElem?_eq_getElem hm)
 have hf:=run_firstCells_some (P:=P) w i.size m a2 m cap2 ncells hnl (fun j u h=>by
  obtain⟨ad,e1,e2⟩:=hnews j u h
  cases e1
  exact e2)
 have hstc:=run_storeCells_at P b (o+n*i.size) T ncells 0 vs w hh (by omega) hone
 simp only[Nat.add_zero]at hstc
 simp[Builtin.append_,run_underlying ht,sizeOf,typeInfo,hi,Builtin.lenOf,hroom,hf,Addr.add_lit,hstc]
theorem wA {t e:TypeId} {i:TypeInfo} {z:Value} (ht:P.underlying t=some (.slice e)) (hi:P.info? e=some i) (hz:i.zero=some z) (hzs:z.cells.size=i.size) (hsz:0<i.size) (hby:0<i.bytes) {n m cap:Nat} {A A2:Option Addr} {cap2:Nat} {ocells ncells:List Value}
  (hol:ocells.length=n*i.size) (hoc:∀(j:Nat) u,ocells[j]?=some u→∃ad,A=some ad∧w.cell? (ad.add j)=some u) (hnl:ncells.length=m*i.size) (hnews:∀(j:Nat) u,ncells[j]?=some u→∃ad,A2=some ad∧w.cell? (ad.add j)=some u)
  (hm:0<m) (hroom:cap<n+m) (hA:A=none→cap=0) (hn:n≤cap) (hb:(n+m)*i.bytes≤140737488355328) (ty:TypeId):
  ∃gc cs,(Builtin.append_ #[t,t] ty #[.slice A n cap,.slice A2 m cap2]).run P w=.ok (.slice (some ⟨w.heap.size,0,none⟩) (n+m) gc) (w.drew.alloc (.cells cs e))∧n+m≤gc∧cs.size=gc*i.size∧∀(k:Nat) u,(ocells++ncells)[k]?=some u→cs[k]?=some u:=by
 have hn0:0<ncells.length:=by rw[hnl];exact Nat.mul_pos hm hsz
 obtain⟨a2,rfl,_⟩:=hnews 0 _ (List.getElem?_eq_getElem hn0)
 have hnews':∀(j:Nat) u,ncells[j]?=some u→w.cell? (a2.add j)=some u:=fun j u h=>by
  obtain⟨ad,e1,e2⟩:=hnews j u h
  cases e1
  exact e2
 have hneed:n+m≤140737488355328:=Nat.le_trans (Nat.le_mul_of_pos_right _ hby) hb
 have hfits:=growslice_fits (need:=n+m) (old:=cap) (by omega) hb
 generalize hgc:grownCap w (n+m) cap e=gc
 have hge:n+m≤gc:=by rw[←hgc];exact grownCap_ge w _ _ e
 have hrun:(Builtin.append_ #[t,t] ty #[.slice A n cap,.slice (some a2) m cap2]).run P w=
   .ok (.slice (some ⟨w.heap.size,0,none⟩) (n+m) gc) (w.drew.alloc (.cells (ocells.toArray++ncells.toArray++Builtin.zeroCells z.cells (gc - (n+m))) e)):=by
  cases A with
  |some b=>
   rw[←hgc]
   exact run_append_grow w t ty e i z ht hi hz b n cap ocells hol (fun j v h=>by
    obtain⟨ad,e,q⟩:=hoc j v h
    cases e
    exact q) a2 m cap2 ncells hnl hnews' (by omega) (by omega) hfits
  |none=>
   have:=hA rfl
   subst this
   have:n=0:=by omega
   subst this
   have hx0:ocells=[]:=List.eq_nil_of_length_eq_zero (by simpa using hol)
   subst hx0
   simp only[Nat.zero_add]at hgc hfits hb ⊢
   rw[←hgc]
   have:=run_append_nil (P:=P) w t ty e i z ht hi hz a2 m cap2 ncells hnl hnews' hm (by omega) (by omega)
   simpa using this
 refine⟨gc,_,hrun,hge,?_,fun k v hk=>?_⟩
 ·simp only[Array.size_append,List.size_toArray,size_zeroCells,hzs,hol,hnl,←Nat.add_mul]
  congr 1
  omega
 ·have hkl:=(List.getElem?_eq_some_iff.1 hk).1
  rw[Array.getElem?_append,if_pos (by simpa using hkl)]
  simpa using hk
theorem qt {t e:TypeId} {i:TypeInfo} {z:Value} (ht:P.underlying t=some (.slice e)) (hi:P.info? e=some i) (hz:i.zero=some z) (hzs:z.cells.size=i.size) (hsz:0<i.size) (hby:0<i.bytes)
  {X Y:D} {u v:Value} (hr:iE i.size i.bytes X Y st=some (d,st')) (hu:VR w g X u) (hv:VR w g Y v) (hrel:Rel B w g st) (ty:TypeId):
  ∃r w' g',(Builtin.append_ #[t,t] ty #[u,v]).run P w=.ok r w'∧VR w' g' d r∧Step B w g st w' g' st':=by
 unfold iE at hr
 split at hr<;>try contradiction
 rename_i l off s1 n c
 obtain⟨⟨ys,m⟩,hmore,hr2⟩:=Option.bind_eq_some_iff.1 hr
 clear hr
 have hr:=hr2
 clear hr2
 simp only at hr
 split at hr<;>try contradiction
 rename_i cs hbx
 split at hr<;>try contradiction
 rename_i hcond
 obtain⟨rfl,hlim,hle⟩:=hcond
 obtain⟨A2,cap2,ncells,rfl,hnl,hyl,hyo,hnews,hnv⟩:=yG hsz hmore hv hrel
 obtain⟨b,o,cap,vs,T,rfl,hb,hh,hoo,hn,hc,hk⟩:=hu.rs_inv
 obtain⟨b',hb',hB,hS,vs',T',hh',hl,hone,hvv⟩:=hrel.box l _ hbx
 rw[hb]at hb'
 cases hb'
 rw[hh]at hh'
 cases hh'
 have hone':∀u∈ncells,u.oneCell'=true:=fun u hu=>by
  obtain⟨j,hj,rfl⟩:=List.getElem_of_mem hu
  have hj':j<ys.length:=by omega
  exact(hnv j _ _ (List.getElem?_eq_getElem hj') (List.getElem?_eq_getElem hj)).one (hyo _ (List.getElem_mem hj'))
 have nmul:(n+m)*i.size=n*i.size+m*i.size:=Nat.add_mul _ _ _
 have place:0<m→n+m≤cap→∃new:Array Value,(Builtin.append_ #[t,t] ty #[.slice (some ⟨b,o,none⟩) n cap,.slice A2 m cap2]).run P w=.ok (.slice (some ⟨b,o,none⟩) (n+m) cap) (w.setRow b new)∧o=off∧new.size=vs.size∧
   ∀(cs':List D),(∀j,cs'[j]?=if j<off+n*i.size then cs[j]? else if j<off+n*i.size+ys.length then ys[j - (off+n*i.size)]? else cs'[j]?)→(∀(j:Nat) c,off+n*i.size+ys.length≤j→cs'[j]?=some c→cs[j]?=some c)→cs'.length≤vs.size→(∀c∈cs',c.one=true)→BoxR (w.setRow b new) g b (.row cs'):=by
  intro hm hroom
  have h0:o=off:=by
   rcases hoo with h|h
   ·exact h
   ·omega
  subst h0
  have hcm:(n+m)*i.size≤cap*i.size:=Nat.mul_le_mul_right _ hroom
  have hfit:o+n*i.size+ncells.length≤vs.size:=by rw[hnl];omega
  refine⟨_,vY (P:=P) ht hi hh hnl hnews hone' (by rw[hnl];exact Nat.mul_pos hm hsz) hroom hfit ty,rfl,by simp;omega,fun cs' h1 h2 h3 h4=>?_⟩
  have hns:(vs.toList.take (o+n*i.size)++ncells++vs.toList.drop (o+n*i.size+ncells.length)).toArray.size=vs.size:=by simp;omega
  refine⟨_,T,setRow_heap w b vs _ T (0,0) hh,by rw[hns];exact h3,h4,fun j c' v' p q=>?_⟩
  refine VR.mono (Ext.touch hrel hB hS (dC w b _ vs hh hns)) ?_
  have q':=q
  rw[List.getElem?_toArray,i7 (by simp;omega)]at q'
  have p':=p
  rw[h1]at p'
  split at p'
  ·rename_i hlt
   rw[if_pos hlt]at q'
   exact hvv j c' v' p' (by simpa using q')
  ·rename_i hlt
   rw[if_neg hlt]at q'
   split at p'
   ·rename_i hlt2
    rw[if_pos (by omega)]at q'
    exact hnv _ c' v' p' q'
   ·rename_i hlt2
    rw[if_neg (by omega)]at q'
    exact hvv j c' v' (h2 j c' (by omega) p) (by simpa using q')
 split at hr
 · -- it fits
   rename_i hfit
   obtain⟨hf1,hf2⟩:=hfit
   simp only[Option.some.injEq,Prod.mk.injEq]at hr
   obtain⟨rfl,rfl⟩:=hr
   rcases Nat.eq_zero_or_pos m with rfl|hm
   ·have hy0:ys=[]:=List.eq_nil_of_length_eq_zero (by simpa using hyl)
    subst hy0
    have hrun:(Builtin.append_ #[t,t] ty #[.slice (some ⟨b,o,none⟩) n cap,.slice A2 0 cap2]).run P w=.ok (.slice (some ⟨b,o,none⟩) n cap) w:=by
     have hf:(Builtin.firstCells i.size 0 (.slice A2 0 cap2)).run P w=.ok #[] w:=by
      cases A2 with
      |none=>simp[Builtin.firstCells]
      |some a2=>simp[Builtin.firstCells,loadCells,loadCellsFrom]
     simp[Builtin.append_,run_underlying ht,sizeOf,typeInfo,hi,Builtin.lenOf,Nat.le_trans hn hc,hf,storeCells]
    refine⟨_,w,g,hrun,.rs l off i.size n c b o cap vs T hb hh hoo hn hc hk,?_⟩
    have e:cs.take (off+n*i.size)++[]++cs.drop (off+(n+0)*i.size)=cs:=by simp
    rw[e]
    exact Step.setBox hrel hbx hb (by omega) ⟨rfl,rfl,rfl,rfl,fun _ _=>rfl,fun vs T fr h=>⟨vs,h,rfl⟩⟩ ⟨vs,T,hh,hl,hone,hvv⟩
   ·obtain⟨new,hrun,rfl,hns,hbox⟩:=place hm (by omega)
    have hlen:o+(n+m)*i.size=o+n*i.size+ys.length:=by rw[hyl];omega
    have hbx':=hbox (cs.take (o+n*i.size)++ys++cs.drop (o+(n+m)*i.size)) (fun j=>by
      rw[hlen,i7 hle]
      by_cases h1:j<o+n*i.size
      ·simp[h1]
      ·by_cases h2:j<o+n*i.size+ys.length<;>simp[h1,h2]) (fun j c' h1 h2=>by
      rw[hlen,i7 hle,if_neg (by omega),if_neg (by omega)]at h2
      exact h2) (by rw[hlen];simp;omega) (fun c' hc'=>by
      rcases List.mem_append.1 hc' with h|h
      ·rcases List.mem_append.1 h with h|h
       ·exact hone c' (List.mem_of_mem_take h)
       ·exact hyo c' h
      ·exact hone c' (List.mem_of_mem_drop h))
    exact⟨_,_,g,hrun,.rs l o i.size (n+m) c b o cap new T hb (setRow_heap w b vs new T (0,0) hh) (.inl rfl) hf1 hc (by rw[hns];exact hk),Step.setBox hrel hbx hb (by omega) (dC w b new vs hh hns) hbx'⟩
 ·split at hr<;>try contradiction
  rename_i hnf hg
  obtain⟨rfl,hbytes⟩:=hg
  simp only[Option.some.injEq,Prod.mk.injEq]at hr
  obtain⟨rfl,rfl⟩:=hr
  simp only[Nat.zero_add]at hle hk hnf hoo
  have hm:0<m:=by
   rcases Nat.eq_zero_or_pos m with rfl|hm
   ·exfalso;exact hnf ⟨by omega,by simpa using hle⟩
   ·exact hm
  have hyso:∀c∈cs.take (n*i.size)++ys,c.one=true:=fun c' hc'=>by
   rcases List.mem_append.1 hc' with h|h
   ·exact hone c' (List.mem_of_mem_take h)
   ·exact hyo c' h
  by_cases hroom:n+m≤cap
  · -- in place, under a new name
    obtain⟨new,hrun,rfl,hns,hbox⟩:=place hm hroom
    have hcm:(n+m)*i.size≤cap*i.size:=Nat.mul_le_mul_right _ hroom
    have hlen:(cs.take (n*i.size)++ys).length=(n+m)*i.size:=by simp;omega
    have hbx':=hbox (cs.take (n*i.size)++ys) (fun j=>by
      try simp only[Nat.zero_add]
      by_cases h1:j<n*i.size
      ·rw[if_pos h1,List.getElem?_append,if_pos (by simp;omega),List.getElem?_take_of_lt h1]
      ·rw[if_neg h1]
       by_cases h2:j<n*i.size+ys.length
       ·rw[if_pos h2,List.getElem?_append,if_neg (by simp;omega)]
        congr 1
        simp
        omega
       ·rw[if_neg h2]) (fun j c' h1 h2=>by
      have:=(List.getElem?_eq_some_iff.1 h2).1
      omega) (by omega) hyso
    have ht1:=dC w b new vs hh hns
    have s1:=Step.setBox hrel hbx hb (by omega) ht1 hbx'
    have s2:=Step.killBox s1.rel (l:=l) (by show¬l<st.lim;omega)
    have hh2:=setRow_heap w b vs new T (0,0) hh
    have s3:=Step.name s2.rel (b:=b) (x:=.row (cs.take (n*i.size)++ys)) (Array.getElem?_eq_some_iff.1 hh2).1 hB hS (fun l' y hy hl'=>by
     by_cases e:l'=l
     ·subst e;simp[ae]at hy
     ·simp only[ab _ _ e]at hy
      exact e (hrel.inj l' l b _ _ hy hbx hl' hb)) (fun t r h1 h2=>hrel.apart t r l b h1 h2 hb) hbx'
    have hall:=s1.trans hrel (s2.trans s1.rel s3)
    refine⟨_,_,{g with ι:=ap g.ι st.next (some b)},hrun,.rs _ 0 i.size (n+m) (n+m) b 0 cap new T (ae _ _ _) hh2 (.inl rfl) (Nat.le_refl _) hroom (by rw[hns];omega),?_⟩
    simpa[CJ]using hall
  · -- a new block
    have hcl:((vs.toList.take (n*i.size)).length)=n*i.size:=by simp;omega
    obtain⟨gc,cs',hrun,hge,hcs,hget⟩:=wA (P:=P) (w:=w) (n:=n) (m:=m) (cap:=cap) (cap2:=cap2) (A2:=A2) (A:=some ⟨b,o,none⟩) ht hi hz hzs hsz hby hcl (fun j u hj=>by
     have hjl:j<n*i.size:=by have:=(List.getElem?_eq_some_iff.1 hj).1;rw[hcl]at this;exact this
     have h0:o=0:=by
      rcases hoo with h|h
      ·exact h
      ·exfalso
       have:n=0:=by omega
       subst this
       omega
     subst h0
     refine⟨_,rfl,?_⟩
     rw[List.getElem?_take_of_lt hjl]at hj
     rw[dj _ rfl,bK hh]
     simpa using hj) hnl hnews hm (by omega) (fun h=>by cases h) (by omega) hbytes ty
    have s1:=Step.killBox hrel (l:=l) (by omega)
    have s2:=Step.below_ s1.rel (cP w)
    have hlen:(cs.take (n*i.size)++ys).length=(n+m)*i.size:=by simp;omega
    have hgm:(n+m)*i.size≤gc*i.size:=Nat.mul_le_mul_right _ hge
    have hext:=Ext.below_ s2.rel (fu w.drew (.cells cs' e))
    have s3:=Step.newBox s2.rel (.cells cs' e) (x:=.row (cs.take (n*i.size)++ys)) ⟨cs',e,heap_alloc_new w.drew _,by omega,hyso,fun j c' v' p q=>by
     refine(VR.mono hext (VR.mono s2.ext ?_))
     have hj:j<(n+m)*i.size:=by have:=(List.getElem?_eq_some_iff.1 p).1;omega
     obtain⟨u,hu'⟩:∃u,(vs.toList.take (n*i.size)++ncells)[j]?=some u:=⟨_,List.getElem?_eq_getElem (by simp;omega)⟩
     have:=hget j u hu'
     rw[q]at this
     cases this
     rw[List.getElem?_append]at p hu'
     rw[hcl]at hu'
     have hcl2:(cs.take (n*i.size)).length=n*i.size:=by simp;omega
     rw[hcl2]at p
     split at p
     ·rename_i hlt
      rw[if_pos hlt]at hu'
      rw[List.getElem?_take_of_lt hlt]at p hu'
      exact hvv j c' v' p (by simpa using hu')
     ·rename_i hlt
      rw[if_neg hlt]at hu'
      exact hnv _ c' v' p hu'⟩
    have hall:=s1.trans hrel (s2.trans s1.rel s3)
    exact⟨_,_,_,hrun,.rs _ 0 i.size (n+m) (n+m) w.heap.size 0 gc cs' e (ae _ _ _) (heap_alloc_new w.drew _) (.inl rfl) (Nat.le_refl _) hge (by rw[hcs];omega),hall⟩
theorem xt {t e:TypeId} {i:TypeInfo} {z:Value} (ht:P.underlying t=some (.slice e)) (hi:P.info? e=some i) (hz:i.zero=some z) (hzs:z.cells.size=i.size) (hsz:0<i.size) (hby:0<i.bytes)
  {X Y:D} {u v:Value} (hr:iJ i.size i.bytes X Y st=some (d,st')) (hu:VR w g X u) (hv:VR w g Y v) (hrel:Rel B w g st) (ty:TypeId):
  ∃r w' g',(Builtin.append_ #[t,t] ty #[u,v]).run P w=.ok r w'∧VR w' g' d r∧Step B w g st w' g' st':=by
 by_cases hX:∃s1 xs,X=.slice .exact s1 xs∨X=.slice .isnil s1 xs
 case neg=>
  unfold iJ at hr
  split at hr
  case h_3=>exact qt ht hi hz hzs hsz hby hr hu hv hrel ty
  ·exact absurd ⟨_,_,.inl rfl⟩ hX
  ·exact absurd ⟨_,_,.inr rfl⟩ hX
 obtain⟨s1,xs,hX⟩:=hX
 have hr0:((lk i.size Y st).bind fun(ys,m)=>
  if(s1=i.size∨xs.isEmpty)∧(xs.length+m)*i.bytes≤140737488355328∧0<m then
   some (.rs st.next 0 i.size (xs.length+m) (xs.length+m),{st with boxes:=ap st.boxes st.next (some (.row (xs.flatMap D.cells++ys))),next:=st.next+1})
  else if m=0 then some (X,st)else none)=some (d,st'):=by
  rcases hX with rfl|rfl<;>exact hr
 clear hr
 have hr:=hr0
 clear hr0
 have hu0:=hu
 replace hu:VR w g (.slice .exact s1 xs) u:=by
  rcases hX with rfl|rfl
  ·exact hu0
  ·exact hu0.nilExact
 obtain⟨⟨ys,m⟩,hmore,hr2⟩:=Option.bind_eq_some_iff.1 hr
 clear hr
 have hr:=hr2
 clear hr2
 simp only at hr
 obtain⟨A2,cap2,ncells,rfl,hnl,hyl,hyo,hnews,hnv⟩:=yG hsz hmore hv hrel
 split at hr
 ·rename_i hc
  obtain⟨hc1,hc2,hm⟩:=hc
  simp only[Option.some.injEq,Prod.mk.injEq]at hr
  obtain⟨rfl,rfl⟩:=hr
  have hu':VR w g (.slice .exact i.size xs) u:=by
   rcases hc1 with rfl|hc1
   ·exact hu
   ·have:xs=[]:=by simpa using hc1
    subst this
    obtain⟨A,cap,vals,rfl,hcp,hto,_⟩:=hu.slice_inv
    exact .slice .exact _ [] A 0 cap (fun _ _=>Go.undef) rfl hcp hto (fun i x h=>by simp at h) (fun i x j c h=>by simp at h) (fun i x j c h=>by simp at h)
  obtain⟨A,cap,ocells,rfl,hcp,hto,zy,hol,hoc,hov⟩:=hu'.cells_of hsz
  have hto:cap=xs.length:=hto
  obtain⟨gc,cs',hrun,hge,hcs,hget⟩:=wA (P:=P) (w:=w) (n:=xs.length) (m:=m) (cap:=cap) (cap2:=cap2) (A2:=A2) (A:=A) ht hi hz hzs hsz hby hol (fun j u hj=>by
   obtain⟨ad,h1,h2,_,h3⟩:=hoc j u hj
   exact⟨ad,h1,by rw[dj _ h2];exact h3⟩) hnl hnews hm (by omega) (fun h=>by
    subst h
    rcases Nat.eq_zero_or_pos xs.length with h0|h0
    ·omega
    ·obtain⟨ad,h1,_⟩:=hoc 0 _ (List.getElem?_eq_getElem (by rw[hol];exact Nat.mul_pos h0 hsz))
     cases h1) (by omega) hc2 ty
  have s1:=Step.below_ hrel (cP w)
  have hxl:(xs.flatMap D.cells).length=xs.length*i.size:=gN D.cells i.size xs (fun x hx=>(zy x hx).1)
  have nmul:(xs.length+m)*i.size=xs.length*i.size+m*i.size:=Nat.add_mul _ _ _
  have hgm:(xs.length+m)*i.size≤gc*i.size:=Nat.mul_le_mul_right _ hge
  have hext:=Ext.below_ s1.rel (fu w.drew (.cells cs' e))
  have s3:=Step.newBox s1.rel (.cells cs' e) (x:=.row (xs.flatMap D.cells++ys)) ⟨cs',e,heap_alloc_new w.drew _,by simp only[List.length_append];omega,fun c' hc'=>by
    rcases List.mem_append.1 hc' with h|h
    ·exact D.plain_one (ni zy c' h)
    ·exact hyo c' h,fun j c' v' p q=>by
   refine(VR.mono hext (VR.mono s1.ext ?_))
   have hj:j<(xs.length+m)*i.size:=by have:=(List.getElem?_eq_some_iff.1 p).1;simp only[List.length_append]at this;omega
   obtain⟨u,hu'⟩:∃u,(ocells++ncells)[j]?=some u:=⟨_,List.getElem?_eq_getElem (by simp only[List.length_append];omega)⟩
   have:=hget j u hu'
   rw[q]at this
   cases this
   rw[List.getElem?_append]at p hu'
   rw[hol]at hu'
   rw[hxl]at p
   split at p
   ·rename_i hlt
    rw[if_pos hlt]at hu'
    exact hov j c' v' p hu'
   ·rename_i hlt
    rw[if_neg hlt]at hu'
    exact hnv _ c' v' p hu'⟩
  have hall:=s1.trans hrel s3
  exact⟨_,_,_,hrun,.rs _ 0 i.size (xs.length+m) (xs.length+m) w.heap.size 0 gc cs' e (ae _ _ _) (heap_alloc_new w.drew _) (.inl rfl) (Nat.le_refl _) hge (by rw[hcs];omega),hall⟩
 ·split at hr<;>try contradiction
  rename_i hm0
  subst hm0
  simp only[Option.some.injEq,Prod.mk.injEq]at hr
  obtain⟨rfl,rfl⟩:=hr
  obtain⟨A,cap,vals,he,hcp,hto,h3,h4,h5⟩:=hu.slice_inv
  subst he
  have hto:cap=xs.length:=hto
  subst hto
  refine⟨_,w,g,?_,hu0,.refl hrel⟩
  have hf:(Builtin.firstCells i.size 0 (.slice A2 0 cap2)).run P w=.ok #[] w:=by
   cases A2 with
   |none=>simp[Builtin.firstCells]
   |some a2=>simp[Builtin.firstCells,loadCells,loadCellsFrom]
  cases A<;>simp[Builtin.append_,run_underlying ht,sizeOf,typeInfo,hi,Builtin.lenOf,hf,storeCells]
theorem pT {t e:TypeId} {i:TypeInfo} {z:Value} (ht:P.underlying t=some (.slice e)) (hi:P.info? e=some i) (hz:i.zero=some z) (hzs:z.cells.size=i.size) (hsz:0<i.size) (hby:0<i.bytes)
  {X Y:D} {u v:Value} (hX:∀s xs,X≠.slice .isnil s xs) (hr:eZ i.size i.bytes X Y st=some (d,st')) (hu:VR w g X u) (hv:VR w g Y v) (hrel:Rel B w g st) (ty:TypeId):
  ∃r w' g',(Builtin.append_ #[t,t] ty #[u,v]).run P w=.ok r w'∧VR w' g' d r∧Step B w g st w' g' st':=by
 unfold eZ at hr
 split at hr
 case h_2=>exact qt ht hi hz hzs hsz hby hr hu hv hrel ty
 rename_i tk s1 xs s2' s2 ys
 split at hr<;>try contradiction
 rename_i hc
 simp only[Bool.and_eq_true,Bool.or_eq_true,beq_iff_eq,List.isEmpty_iff,decide_eq_true_eq]at hc
 obtain⟨⟨c1,c2⟩,c3⟩:=hc
 have hu':VR w g (.slice (if s1=i.size then tk else .exact) i.size xs) u:=by
  rcases c1 with rfl|⟨rfl,rfl⟩
  ·simpa using hu
  ·obtain⟨A,cap,vals,rfl,hcp,hto,_⟩:=hu.slice_inv
   rw[if_neg (by omega)]
   refine .slice .exact _ [] A 0 cap (fun _ _=>Go.undef) rfl hcp ?_ (fun i x h=>by simp at h) (fun i x j c h=>by simp at h) (fun i x j c h=>by simp at h)
   cases tk with
   |own k=>rcases hto with h|⟨h,_⟩
           ·exact h
           ·exact absurd h (by omega)
   |exact=>exact hto
   |no=>simp at hr
   |fresh=>simp at hr
   |row=>simp at hr
   |isnil=>exact absurd rfl (hX _ _)
   |nonnil=>simp at hr
 have hv':VR w g (.slice .no i.size ys) v:=by
  rcases c2 with rfl|rfl
  ·obtain⟨A,cap,vals,rfl,hcp,hto,_⟩:=hv.slice_inv
   exact .slice .no _ [] A 0 cap (fun _ _=>Go.undef) rfl hcp trivial (fun i x h=>by simp at h) (fun i x j c h=>by simp at h) (fun i x j c h=>by simp at h)
  ·exact hv.toNo
 obtain⟨A,cap,ocells,rfl,hcp,hto,zy,hol,hoc,hov⟩:=hu'.cells_of hsz
 obtain⟨A2,cap2,ncells,rfl,hcp2,_,hpy,hnl,hnc,hnv⟩:=hv'.cells_of hsz
 have hpxy:∀x∈xs++ys,x.cells.length=i.size∧∀c∈x.cells,c.plain=true:=fun x hx=>by
  rcases List.mem_append.1 hx with h|h
  ·exact zy x h
  ·exact hpy x h
 have hone:∀u∈ncells,u.oneCell'=true:=fun u hu=>by
  obtain⟨j,hj,rfl⟩:=List.getElem_of_mem hu
  have hj':j<(ys.flatMap D.cells).length:=by rw[gN D.cells i.size ys (fun x hx=>(hpy x hx).1)];omega
  exact(hnv j _ _ (List.getElem?_eq_getElem hj') (List.getElem?_eq_getElem hj)).one (D.plain_one (ni hpy _ (List.getElem_mem hj')))
 have hfl:(xs.flatMap D.cells).length=ocells.length:=by rw[gN D.cells i.size xs (fun x hx=>(zy x hx).1)];omega
 have hcells:∀(k:Nat) c v,((xs++ys).flatMap D.cells)[k]?=some c→(ocells++ncells)[k]?=some v→VR w g c v:=fun k c v p q=>by
  rw[List.flatMap_append,List.getElem?_append,hfl]at p
  rw[List.getElem?_append]at q
  split at p
  ·rename_i h
   rw[if_pos h]at q
   exact hov k c v p q
  ·rename_i h
   rw[if_neg h]at q
   exact hnv _ c v p q
 have hst:(∃k,tk=.own k∧st.toks k=true∧st.tlim≤k∧d=.slice (.own st.ntok) i.size (xs++ys)∧st'={st with toks:=ap (ap st.toks k false) st.ntok true,ntok:=st.ntok+1})∨
   (tk=.exact∧d=.slice (.own st.ntok) i.size (xs++ys)∧st'={st with toks:=ap st.toks st.ntok true,ntok:=st.ntok+1}):=by
  cases tk with
  |own k=>
   simp only at hr
   split at hr<;>try contradiction
   rename_i hk
   simp only[Bool.and_eq_true,decide_eq_true_eq]at hk
   cases hr
   exact .inl ⟨k,rfl,hk.1,hk.2,rfl,rfl⟩
  |exact=>simp only at hr;cases hr;exact .inr ⟨rfl,rfl,rfl⟩
  |no=>simp at hr
  |fresh=>simp at hr
  |row=>simp at hr
  |isnil=>exact absurd rfl (hX _ _)
  |nonnil=>simp at hr
 have hd:d=.slice (.own st.ntok) i.size (xs++ys):=by rcases hst with⟨k,_,_,_,h,_⟩|⟨_,h,_⟩<;>exact h
 subst hd
 obtain⟨st0,hst0,hst0',hk0,hlive,hdead⟩:∃st0,Step B w g st w g st0∧st'={st0 with toks:=ap st0.toks st0.ntok true,ntok:=st0.ntok+1}∧st0.ntok=st.ntok∧(∀t,st0.toks t=true→st.toks t=true)∧∀k,tk=.own k→st0.toks k=false:=by
  rcases hst with⟨k,hk',_,hk,_,rfl⟩|⟨he,_,rfl⟩
  ·refine⟨_,Step.kill hrel hk,rfl,rfl,fun t h=>?_,fun k' e=>?_⟩
   ·by_cases e:t=k
    ·subst e;simp[ae]at h
    ·simpa[ab _ _ e]using h
   ·rw[hk']at e
    cases e
    simp[ae]
  ·exact⟨st,.refl hrel,rfl,rfl,fun _ h=>h,fun k e=>by rw[he]at e;cases e⟩
 rw[←hk0]
 have row:cap≠xs.length→∃k r cs,tk=.own k∧st.toks k=true∧g.τ k=some r∧A=some ⟨r.b,0,none⟩∧r.e=xs.length*i.size∧r.n=cap*i.size∧B≤r.b∧w.heap[r.b]?=some (.cells cs r.T (0,0))∧cs.size=r.n∧r.e≤r.n∧
   (∀o,r.e≤o→¬g.S r.b o)∧(∀l,g.ι l≠some r.b)∧∀t r',st0.toks t=true→g.τ t=some r'→r'.b≠r.b:=by
  intro hcl
  rcases hst with⟨k,rfl,hk1,hk2,_,_⟩|⟨rfl,_,_⟩
  ·by_cases hs1:s1=i.size
   ·subst hs1
    simp only[if_true]at hto
    rcases hto with h|⟨_,r,hr1,hr2,hr3,hr4⟩
    ·exact absurd h hcl
    ·obtain⟨cs,t1,t2,t3,t4,t5⟩:=hrel.tok k r hk1 hr1
     refine⟨k,r,cs,rfl,hk1,hr1,hr2,hr3,hr4,t1,t2,t3,t4,t5,fun l hl=>hrel.apart k r l r.b hk1 hr1 hl rfl,fun t r' ht' hr' e=>?_⟩
     have:=hrel.uniq t k r' r (hlive t ht') hk1 hr' hr1 e
     subst this
     rw[hdead t rfl]at ht'
     cases ht'
   ·rw[if_neg hs1]at hto
    exact absurd hto hcl
  ·have:TokOK g.τ .exact i.size A xs.length cap:=by
    split at hto<;>exact hto
   exact absurd this hcl
 have hty:(ocells++ncells).length=(xs.length+ys.length)*i.size:=by rw[List.length_append,hol,hnl,Nat.add_mul]
 have hlen:(xs++ys).length=xs.length+ys.length:=List.length_append
 rcases Nat.eq_zero_or_pos ys.length with hm|hm
 · -- nothing is appended
   have hys:ys=[]:=List.eq_nil_of_length_eq_zero hm
   subst hys
   have hnn:ncells=[]:=List.eq_nil_of_length_eq_zero (by simpa using hnl)
   have hrun:(Builtin.append_ #[t,t] ty #[.slice A xs.length cap,.slice A2 0 cap2]).run P w=.ok (.slice A xs.length cap) w:=by
    have hf:(Builtin.firstCells i.size 0 (.slice A2 0 cap2)).run P w=.ok #[] w:=by
     cases A2 with
     |none=>simp[Builtin.firstCells]
     |some a2=>simp[Builtin.firstCells,loadCells,loadCellsFrom]
    cases A<;>simp[Builtin.append_,run_underlying ht,sizeOf,typeInfo,hi,Builtin.lenOf,hcp,hf,storeCells]
   obtain⟨A',cap',vals,he,h1,h2,h3,h4,h5⟩:=hu'.slice_inv
   cases he
   by_cases hcl:cap=xs.length
   ·exact⟨_,w,g,hrun,.slice _ _ _ A xs.length cap vals (by simp) hcp (.inl hcl) (by simpa using h3) (by simpa using h4) (by simpa using h5),hst0'▸hst0.trans hrel (Step.tokBare hst0.rel)⟩
   ·obtain⟨k,r,cs,_,_,_,rfl,r3,r4,r5,r6,r7,r8,r9,r10,r11⟩:=row hcl
    have hs:=Step.tokRow hst0.rel (r:=r) r5 r6 r7 r8 r9 r10 r11
    refine⟨_,w,_,hrun,?_,hst0'▸hst0.trans hrel hs⟩
    exact .slice _ _ _ _ xs.length cap vals (by simp) hcp (.inr ⟨hsz,r,ae _ _ _,rfl,r3,r4⟩) (by simpa using h3) (by simpa using h4) (fun i x j c p q=>(h5 i x j c (by simpa using p) q).mono hs.ext)
 · -- something is appended: its address
   have hn0:0<ncells.length:=by rw[hnl];exact Nat.mul_pos hm hsz
   obtain⟨a2,rfl,_,_,_⟩:=hnc 0 _ (List.getElem?_eq_getElem hn0)
   have hnews:∀(j:Nat) u,ncells[j]?=some u→a2.spot=none∧g.S a2.block (a2.off+j)∧w.cell? (a2.add j)=some u:=fun j u hj=>by
    obtain⟨ad,e,h1,h2,h3⟩:=hnc j u hj
    cases e
    exact⟨h1,h2,by rw[dj _ h1];exact h3⟩
   by_cases hroom:xs.length+ys.length≤cap
   · -- in place
     obtain⟨k,r,cs,rfl,r1,r2,rfl,r3,r4,r5,r6,r7,r8,r9,r10,r11⟩:=row (by omega)
     have hfit:xs.length*i.size+ncells.length≤cs.size:=by rw[hnl,r7,r4,←Nat.add_mul];exact Nat.mul_le_mul_right _ hroom
     have hf:=run_firstCells_some (P:=P) w i.size ys.length a2 ys.length cap2 ncells hnl (fun j u h=>(hnews j u h).2.2)
     have hstc:=run_storeCells_at P r.b (xs.length*i.size) r.T ncells 0 cs w r6 (by simpa using hfit) hone
     simp only[Nat.add_zero]at hstc
     generalize hnew:(cs.toList.take (xs.length*i.size)++ncells++cs.toList.drop (xs.length*i.size+ncells.length)).toArray=new at hstc
     have hrun:(Builtin.append_ #[t,t] ty #[.slice (some ⟨r.b,0,none⟩) xs.length cap,.slice (some a2) ys.length cap2]).run P w=.ok (.slice (some ⟨r.b,0,none⟩) (xs.length+ys.length) cap) (w.setRow r.b new):=by
      simp[Builtin.append_,run_underlying ht,sizeOf,typeInfo,hi,Builtin.lenOf,hroom,hf,Addr.add_lit,hstc]
     have hnl':new.size=cs.size:=by rw[←hnew];simp;omega
     have hnget:∀k,new[k]?=if k<xs.length*i.size then cs[k]? else if k<xs.length*i.size+ncells.length then ncells[k - xs.length*i.size]? else cs[k]?:=by
      intro k
      rw[←hnew]
      have tl:(cs.toList.take (xs.length*i.size)).length=xs.length*i.size:=by simp;omega
      simp only[List.getElem?_toArray,List.append_assoc]
      rw[List.getElem?_append,tl]
      split
      ·rename_i h
       rw[List.getElem?_take_of_lt h]
       simp
      ·rename_i h
       rw[List.getElem?_append]
       by_cases h2:k<xs.length*i.size+ncells.length
       ·rw[if_pos (by omega),if_pos h2]
       ·rw[if_neg (by omega),if_neg h2,List.getElem?_drop]
        simp only[Array.getElem?_toList]
        congr 1
        omega
     have hheap:(w.setRow r.b new).heap[r.b]?=some (.cells new r.T (0,0)):=setRow_heap w r.b cs new r.T (0,0) r6
     have hw1:=Step.write hst0.rel (w':=w.setRow r.b new) r5 ⟨r.e,r9 r.e (Nat.le_refl _)⟩ (dC w r.b new cs r6 hnl') (fun o hS=>by
      have ho:o<r.e:=by
       rcases Nat.lt_or_ge o r.e with h|h
       ·exact h
       ·exact absurd hS (r9 o h)
      rw[bK hheap,bK r6,hnget,if_pos (by omega)]) r10 r11 (fun t r' _ h1 h2=>r11 t r' h1 h2)
     have hw2:=Step.settle hw1.rel (lo:=xs.length*i.size) (hi:=(xs.length+ys.length)*i.size) r5 hheap (by rw[hnl',r7,r4];exact Nat.mul_le_mul_right _ hroom) (fun l _ _=>r10 l) (fun t r' h1 h2 h3=>absurd h3 (r11 t r' h1 h2))
     have hle:(xs.length+ys.length)*i.size≤r.n:=by rw[r4];exact Nat.mul_le_mul_right _ hroom
     have hsum:(xs.length+ys.length)*i.size=xs.length*i.size+ncells.length:=by rw[Nat.add_mul,hnl]
     have hw3:=Step.tokRow hw2.rel (r:=⟨r.b,(xs.length+ys.length)*i.size,r.T,r.n⟩) r5 hheap (by rw[hnl',r7]) hle (fun o ho hS=>by
      rcases hS with hS|⟨_,_,h⟩
      ·exact r9 o (by rw[r3];simp only at ho;omega) hS
      ·simp only at ho;omega) r10 r11
     have hall:=hst0.trans hrel (hw1.trans hst0.rel (hw2.trans hw1.rel hw3))
     refine⟨_,_,_,hrun,?_,hst0'▸hall⟩
     have:=VR.row (w:=w.setRow r.b new) (g:={(g.more r.b (xs.length*i.size) ((xs.length+ys.length)*i.size))with τ:=ap g.τ st0.ntok (some ⟨r.b,(xs.length+ys.length)*i.size,r.T,r.n⟩)}) (t:=.own st0.ntok) (sz:=i.size) (xs:=xs++ys) (ad:=⟨r.b,0,none⟩) (cap:=cap) (cells:=ocells++ncells)
      hsz rfl (by rw[hlen];exact hroom) (.inr ⟨hsz,_,ae _ _ _,rfl,by rw[hlen],r4⟩) hpxy (by rw[hty,hlen]) (fun k v hk=>?_) (fun k c v p q=>(hcells k c v p q).mono hall.ext)
     ·rw[hlen]at this
      exact this
     ·rw[List.getElem?_append]at hk
      simp only[Nat.zero_add]
      split at hk
      ·rename_i hlt
       obtain⟨ad,e,q1,q2,q3⟩:=hoc k v hk
       cases e
       simp only[Nat.zero_add]at q2 q3
       exact⟨.inl q2,(hw1.ext.cell _ _ q2).trans q3⟩
      ·rename_i hlt
       rw[hol]at hk hlt
       have hkl:=(List.getElem?_eq_some_iff.1 hk).1
       refine⟨.inr ⟨rfl,by omega,by omega⟩,?_⟩
       rw[bK hheap,hnget,if_neg (by omega),if_pos (by omega)]
       exact hk
   · -- a new row
     have hneed:xs.length+ys.length≤140737488355328:=Nat.le_trans (Nat.le_mul_of_pos_right _ hby) c3
     have hfits:=growslice_fits (need:=xs.length+ys.length) (old:=cap) (by omega) c3
     generalize hgc:grownCap w (xs.length+ys.length) cap e=gc
     have hge:xs.length+ys.length≤gc:=by rw[←hgc];exact grownCap_ge w _ _ e
     have hrun:(Builtin.append_ #[t,t] ty #[.slice A xs.length cap,.slice (some a2) ys.length cap2]).run P w=
       .ok (.slice (some ⟨w.heap.size,0,none⟩) (xs.length+ys.length) gc) (w.drew.alloc (.cells (ocells.toArray++ncells.toArray++Builtin.zeroCells z.cells (gc - (xs.length+ys.length))) e)):=by
      cases A with
      |some b=>
       rw[←hgc]
       exact run_append_grow w t ty e i z ht hi hz b xs.length cap ocells hol (fun j v h=>by
        obtain⟨ad,e,q1,q2,q3⟩:=hoc j v h
        cases e
        rw[dj _ q1]
        exact q3) a2 ys.length cap2 ncells hnl (fun j v h=>(hnews j v h).2.2) (by omega) (by omega) hfits
      |none=>
       have hx0:ocells=[]:=by
        cases ocells with
        |nil=>rfl
        |cons v r=>
         obtain⟨ad,h,_⟩:=hoc 0 v rfl
         cases h
       subst hx0
       have hxl:xs.length=0:=by
        rcases Nat.mul_eq_zero.1 hol.symm with h|h
        ·exact h
        ·omega
       have hcap:cap=0:=by
        by_cases h:cap=xs.length
        ·omega
        ·obtain⟨_,_,_,_,_,_,h',_⟩:=row h
         cases h'
       subst hcap
       simp only[hxl,Nat.zero_add]at hgc hfits ⊢
       rw[←hgc]
       have:=run_append_nil (P:=P) w t ty e i z ht hi hz a2 ys.length cap2 ncells hnl (fun j v h=>(hnews j v h).2.2) hm (by omega) (by rw[hxl,Nat.zero_add]at c3;omega)
       simpa using this
     generalize hcs:ocells.toArray++ncells.toArray++Builtin.zeroCells z.cells (gc - (xs.length+ys.length))=cs at hrun
     have hcsz:cs.size=gc*i.size:=by
      rw[←hcs]
      simp only[Array.size_append,List.size_toArray,size_zeroCells,hzs,hol,hnl,←Nat.add_mul]
      congr 1
      omega
     have hcget:∀(k:Nat) v,(ocells++ncells)[k]?=some v→cs[k]?=some v:=fun k v hk=>by
      have hkl:=(List.getElem?_eq_some_iff.1 hk).1
      rw[←hcs,Array.getElem?_append,if_pos (by simpa using hkl)]
      simpa using hk
     have hbel:Below w.heap.size w (w.drew.alloc (.cells cs e)):=(cP w).trans (Below.alloc (B:=w.heap.size) (a:=w.drew) (w:=w.drew) (Below.refl _ _) (Nat.le_refl _) _)
     have hw1:=Step.below_ hst0.rel hbel
     have hheap:(w.drew.alloc (.cells cs e)).heap[w.heap.size]?=some (.cells cs e (0,0)):=heap_alloc_new w.drew _
     have nob:∀l,g.ι l≠some w.heap.size:=fun l h=>by have:=hrel.ltι l _ h;omega
     have noS:∀o,¬g.S w.heap.size o:=fun o h=>by have:=AG hrel h;omega
     have noτ:∀t r',st0.toks t=true→g.τ t=some r'→r'.b≠w.heap.size:=fun t r' h1 h2 h3=>by
      obtain⟨_,_,h4,_⟩:=hst0.rel.tok t r' h1 h2
      have:=(Array.getElem?_eq_some_iff.1 h4).1
      omega
     have hle:(xs.length+ys.length)*i.size≤cs.size:=by rw[hcsz];exact Nat.mul_le_mul_right _ hge
     have hw2:=Step.settle hw1.rel (lo:=0) (hi:=(xs.length+ys.length)*i.size) hrel.base hheap hle (fun l _ _=>nob l) (fun t r' h1 h2 h3=>absurd h3 (noτ t r' h1 h2))
     have hw3:=Step.tokRow hw2.rel (r:=⟨w.heap.size,(xs.length+ys.length)*i.size,e,gc*i.size⟩) hrel.base hheap hcsz (by rw[←hcsz];exact hle) (fun o ho hS=>by
      rcases hS with hS|⟨_,_,h⟩
      ·exact noS o hS
      ·simp only at ho;omega) nob noτ
     have hall:=hst0.trans hrel (hw1.trans hst0.rel (hw2.trans hw1.rel hw3))
     refine⟨_,_,_,hrun,?_,hst0'▸hall⟩
     have:=VR.row (w:=w.drew.alloc (.cells cs e)) (g:={(g.more w.heap.size 0 ((xs.length+ys.length)*i.size))with τ:=ap g.τ st0.ntok (some ⟨w.heap.size,(xs.length+ys.length)*i.size,e,gc*i.size⟩)}) (t:=.own st0.ntok) (sz:=i.size) (xs:=xs++ys) (ad:=⟨w.heap.size,0,none⟩) (cap:=gc) (cells:=ocells++ncells)
      hsz rfl (by rw[hlen];exact hge) (.inr ⟨hsz,_,ae _ _ _,rfl,by rw[hlen],rfl⟩) hpxy (by rw[hty,hlen]) (fun k v hk=>?_) (fun k c v p q=>(hcells k c v p q).mono hall.ext)
     ·rw[hlen]at this
      exact this
     ·have hkl:=(List.getElem?_eq_some_iff.1 hk).1
      rw[hty]at hkl
      simp only[Nat.zero_add]
      exact⟨.inr ⟨rfl,by omega,by omega⟩,by rw[bK hheap];exact hcget k v hk⟩
theorem zL {t e:TypeId} {i:TypeInfo} {z:Value} (ht:P.underlying t=some (.slice e)) (hi:P.info? e=some i) (hz:i.zero=some z) (hzs:z.cells.size=i.size) (hsz:0<i.size) (hby:0<i.bytes)
  {X Y:D} {u v:Value} (hr:eZ i.size i.bytes X Y st=some (d,st')) (hu:VR w g X u) (hv:VR w g Y v) (hrel:Rel B w g st) (ty:TypeId):
  ∃r w' g',(Builtin.append_ #[t,t] ty #[u,v]).run P w=.ok r w'∧VR w' g' d r∧Step B w g st w' g' st':=by
 by_cases hX:∃s xs,X=.slice .isnil s xs
 ·obtain⟨s,xs,rfl⟩:=hX
  refine pT (X:=.slice .exact s xs) ht hi hz hzs hsz hby (fun _ _ h=>by cases h) ?_ hu.nilExact hv hrel ty
  cases Y<;>exact hr
 ·exact pT ht hi hz hzs hsz hby (fun s xs h=>hX ⟨s,xs,h⟩) hr hu hv hrel ty
theorem yg {α:Type} {l:List α} (hz:0<l.length) {n j:Nat} (hj:j<n*l.length):((List.replicate n l).flatten)[j]?=l[j%l.length]?:=by
 obtain⟨l1,l2,l3⟩:=kZ hz hj
 have e:(List.replicate n l).flatten=(List.replicate n l).flatMap id:=by simp[List.flatMap]
 rw[e]
 conv=>lhs;rw[l3]
 rw[mh id l.length (List.replicate n l) (fun x hx=>by rw[(List.mem_replicate.1 hx).2];rfl) _ _ l2]
 rw[List.getElem?_replicate,if_pos l1]
 rfl
theorem A7 {mv:Bool} {c:Call} (ho:o.op=.call c) (hb:c.callee=.builtin .append) (hc:aq P o.op=some x) (hr:x.runM mv ρ st=some (d,st')) (he:EnvR w g ρ a.tmps) (hrel:Rel B w g st):rJ P B w g st (execOp a.eval o) d st':=by
 rw[ho]at hc
 obtain⟨callee,⟨args⟩,⟨argTypes⟩⟩:=c
 simp only at hb
 subst hb
 simp only[aq,kn,gD,Option.bind_eq_bind]at hc
 split at hc<;>try contradiction
 rename_i y z t u
 split at hc<;>try contradiction
 case h_2=>
  rename_i e k hT hU
  split at hc<;>try contradiction
  rename_i i hi
  split at hc<;>try contradiction
  rename_i zd hzd
  split at hc<;>try contradiction
  rename_i hcond
  simp only[Bool.and_eq_true,decide_eq_true_eq,beq_iff_eq]at hcond
  obtain⟨⟨k1,k2⟩,k3⟩:=hcond
  simp only[Option.bind_eq_some_iff,Option.some.injEq]at hc
  obtain⟨y',hy,z',hz',rfl⟩:=hc
  obtain⟨it,zv,hit,hiz,hzv,hz1⟩:=kp hzd
  rw[hi]at hit
  cases hit
  have hr':(O.appendZ i.size i.bytes zd.cells y' z').run ρ st=some (d,st'):=by cases mv<;>exact hr
  simp only[O.run]at hr'
  split at hr'<;>try contradiction
  rename_i s0 n hcv hn
  split at hr'<;>try contradiction
  rename_i hcnd
  obtain⟨n1,n2⟩:=hcnd
  simp only[Option.some.injEq,Prod.mk.injEq]at hr'
  obtain⟨rfl,rfl⟩:=hr'
  have h1:=co he hy
  have h2:=co he hz'
  rw[hcv]at h1
  obtain⟨A,cap,vals,hu,_,hto,_⟩:=h1.slice_inv
  obtain⟨rfl,_,rfl⟩:=hto
  obtain⟨kk,hk⟩:=dL hn h2
  obtain⟨zl,zr⟩:=(hzv w g).cells
  have hzs:zv.cells.size=i.size:=by omega
  have hfits:=growslice_fits (need:=n) (old:=0) n1 n2
  have hn47:n≤140737488355328:=Nat.le_trans (Nat.le_mul_of_pos_right _ k2) n2
  have hwrap:IntKind.i64.wrap (n:Int)=n:=by rw[IntKind.wrap_i64];omega
  have hne:n≠0:=by omega
  have h63':¬(9223372036854775807<(n:Int)):=by omega
  have h48':¬(281474976710656<Builtin.nextslicecap n 0*i.bytes):=by omega
  have h48z:¬(281474976710656<(n:Int)*(i.bytes:Int)):=by
   have:((n*i.bytes:Nat):Int)≤140737488355328:=Int.ofNat_le.2 n2
   rw[Int.natCast_mul]at this
   omega
  have hsz0:¬i.size=0:=by omega
  generalize hgc:grownCap w n 0 e=gc
  have hge:n≤gc:=by rw[←hgc];exact grownCap_ge w _ _ e
  have hrun:(Builtin.append_ #[t,u] o.type #[a.eval y,a.eval z]).run P w=.ok (.slice (some ⟨w.heap.size,0,none⟩) n gc) (w.drew.alloc (.cells (Builtin.zeroCells zv.cells n++Builtin.zeroCells zv.cells (gc - n)) e)):=by
   rw[←hgc]
   rw[hu,hk]
   have hl0:¬((n:Int)≤0):=by omega
   have hl1:¬((n:Int)<0):=by omega
   have hns:¬(n*i.size=0):=by have:=Nat.mul_pos n1 k1;omega
   simp[Builtin.append_,run_underlying hT,run_underlying hU,asInt,asIntOf,hwrap,hl0,hl1,hns,sizeOf,typeInfo,zeroValue,hi,hiz,hne,h63',h48',h48z,hsz0,Question.forced,run_firstCells_none,newRow,grownCap]
  have s1:=Step.below_ hrel (cP w)
  have hext:=Ext.below_ s1.rel (fu w.drew (.cells (Builtin.zeroCells zv.cells n++Builtin.zeroCells zv.cells (gc - n)) e))
  have hcl:((List.replicate n zd.cells).flatten).length=n*i.size:=by simp[k3]
  have hgm:n*i.size≤gc*i.size:=Nat.mul_le_mul_right _ hge
  have hcs:(Builtin.zeroCells zv.cells n++Builtin.zeroCells zv.cells (gc - n)).size=gc*i.size:=by
   simp only[Array.size_append,size_zeroCells,hzs,←Nat.add_mul]
   congr 1
   omega
  have s3:=Step.newBox s1.rel (.cells (Builtin.zeroCells zv.cells n++Builtin.zeroCells zv.cells (gc - n)) e) (x:=.row ((List.replicate n zd.cells).flatten)) ⟨_,e,heap_alloc_new w.drew _,by rw[hcl,hcs];exact hgm,fun c hc=>by
   obtain⟨l',hl',hc'⟩:=List.mem_flatten.1 hc
   rw[(List.mem_replicate.1 hl').2]at hc'
   exact hz1 c hc',fun j c q p r=>by
   have hj:j<n*i.size:=by have:=(List.getElem?_eq_some_iff.1 p).1;rw[hcl]at this;exact this
   rw[yg (by omega) (by rw[k3];exact hj),k3]at p
   have hm:j%i.size<i.size:=Nat.mod_lt _ k1
   have hq:zv.cells[j%i.size]?=some q:=by
    rw[Array.getElem?_append,if_pos (by simp only[size_zeroCells,hzs];exact hj)]at r
    simp only[Builtin.zeroCells,hzs,Array.getElem?_map,Array.getElem?_range,if_pos hj,Option.map_some,Option.some.injEq]at r
    rw[←r,getElem!_pos zv.cells (j%i.size) (by omega)]
    exact Array.getElem?_eq_getElem _
   exact(hzv _ _).cells.2 _ c q p hq⟩
  have hall:=s1.trans hrel s3
  exact⟨.value _,_,_,_,by simp[execOp,ho,resolve,invoke,builtin,hrun],.inl rfl,.rs _ 0 i.size n n w.heap.size 0 gc _ e (ae _ _ _) (heap_alloc_new w.drew _) (.inl rfl) (Nat.le_refl _) hge (by rw[hcs];omega),hall⟩
 rename_i e e' hT hU
 split at hc<;>try contradiction
 rename_i i hi
 split at hc<;>try contradiction
 rename_i zv hz
 split at hc<;>try contradiction
 rename_i hcond
 simp only[Bool.and_eq_true,decide_eq_true_eq,beq_iff_eq]at hcond
 obtain⟨⟨⟨k1,k2⟩,k3⟩,rfl⟩:=hcond
 simp only[Option.bind_eq_some_iff,Option.some.injEq]at hc
 obtain⟨y',hy,z',hz',rfl⟩:=hc
 obtain⟨r,w',g',h1,h2,h3⟩:∃r w' g',(Builtin.append_ #[t,t] o.type #[a.eval y,a.eval z]).run P w=.ok r w'∧VR w' g' d r∧Step B w g st w' g' st':=by
  cases mv with
  |true=>exact xt (P:=P) hT hi hz k3 k1 k2 hr (co he hy) (co he hz') hrel o.type
  |false=>exact zL (P:=P) hT hi hz k3 k1 k2 hr (co he hy) (co he hz') hrel o.type
 exact⟨.value r,r,w',g',by simp[execOp,ho,resolve,invoke,builtin,h1],.inl rfl,h2,h3⟩
theorem Db {c:Call} (ho:o.op=.call c) (hb:c.callee=.builtin .clear) (hc:aq P o.op=some x) (hr:x.run ρ st=some (d,st')) (he:EnvR w g ρ a.tmps) (hrel:Rel B w g st):rJ P B w g st (execOp a.eval o) d st':=by
 rw[ho]at hc
 obtain⟨callee,⟨args⟩,⟨argTypes⟩⟩:=c
 simp only at hb
 subst hb
 simp only[aq,kn,Io,Option.bind_eq_bind]at hc
 split at hc<;>try contradiction
 rename_i y t ts
 split at hc<;>try contradiction
 rename_i e hT
 simp only[Option.bind_eq_some_iff,Option.some.injEq]at hc
 obtain⟨z,hz,y',hy,rfl⟩:=hc
 have h1:=co he hy
 obtain⟨it,zv,hit,hiz,hzv,hz1⟩:=kp hz
 simp only[O.run]at hr
 split at hr<;>try contradiction
 · -- nothing in it
   rename_i hcv
   simp only[Option.some.injEq,Prod.mk.injEq]at hr
   obtain⟨rfl,rfl⟩:=hr
   rw[hcv]at h1
   obtain⟨A,cap,vals,hu,_⟩:=h1.slice_inv
   refine⟨.value (.tuple #[]),_,w,g,?_,.inl rfl,.undef,.refl hrel⟩
   cases A<;>simp[execOp,ho,resolve,invoke,builtin,Builtin.clear_,run_underlying hT,hu]
 ·rename_i l off sz n c' hcv
  rw[hcv]at h1
  obtain⟨b,o',cap,vs,T',hu,hbb,hh,hoo,hn,hcc,hk⟩:=h1.rs_inv
  split at hr
  ·rename_i hn0
   subst hn0
   simp only[Option.some.injEq,Prod.mk.injEq]at hr
   obtain⟨rfl,rfl⟩:=hr
   exact⟨.value (.tuple #[]),_,w,g,by simp[execOp,ho,resolve,invoke,builtin,Builtin.clear_,run_underlying hT,hu],.inl rfl,.undef,.refl hrel⟩
  ·rename_i hn0
   split at hr<;>try contradiction
   rename_i hlim
   obtain⟨x0,hbx,hr⟩:=Option.bind_eq_some_iff.1 hr
   obtain⟨cs,hcsx,hr⟩:=Option.bind_eq_some_iff.1 hr
   split at hr<;>try contradiction
   rename_i hcond
   obtain⟨hle,hzl⟩:=hcond
   simp only[Option.some.injEq,Prod.mk.injEq]at hr
   obtain⟨rfl,rfl⟩:=hr
   have h0:o'=off:=by
    rcases hoo with h|h
    ·exact h
    ·omega
   subst h0
   obtain⟨zl,zr⟩:=(hzv w g).cells
   have hzc:(Builtin.zeroCells zv.cells n).toList.length=n*sz:=by
    have hs:zv.cells.size=sz:=by omega
    simp[size_zeroCells,hs]
   have hyl:((List.replicate n z.cells).flatten).length=n*sz:=by simp[hzl]
   obtain⟨w',hst,hstep⟩:=Ew (P:=P) (us:=(Builtin.zeroCells zv.cells n).toList) (ys:=(List.replicate n z.cells).flatten) hrel hbx hcsx hbb hlim (by rw[hyl];exact hle) (by rw[hzc,hyl]) (fun c hc=>by
    obtain⟨l',hl',hc'⟩:=List.mem_flatten.1 hc
    rw[(List.mem_replicate.1 hl').2]at hc'
    exact hz1 c hc') (fun j c u p q=>by
    have hj:j<n*sz:=by have:=(List.getElem?_eq_some_iff.1 p).1;rw[hyl]at this;exact this
    have hsz0:0<sz:=by
     rcases Nat.eq_zero_or_pos sz with h|h
     ·subst h;omega
     ·exact h
    rw[yg (by omega) (by rw[hzl];exact hj),hzl]at p
    have hm:j%sz<sz:=Nat.mod_lt _ hsz0
    have hq:zv.cells[j%sz]?=some u:=by
     have hs:zv.cells.size=sz:=by omega
     simp only[Builtin.zeroCells,hs,Array.toList_map,List.getElem?_map,Array.toList_range,List.getElem?_range hj,Option.map_some,Option.some.injEq]at q
     rw[←q,getElem!_pos zv.cells (j%sz) (by omega)]
     exact Array.getElem?_eq_getElem _
    exact zr _ c u p hq)
   rw[hyl]at hstep
   refine⟨.value (.tuple #[]),_,w',g,?_,.inl rfl,.undef,hstep⟩
   cases n with
   |zero=>exact absurd rfl hn0
   |succ n=>simp[execOp,ho,resolve,invoke,builtin,Builtin.clear_,run_underlying hT,hu,zeroValue,typeInfo,hit,hiz,hst]
end
end Go.Ev
