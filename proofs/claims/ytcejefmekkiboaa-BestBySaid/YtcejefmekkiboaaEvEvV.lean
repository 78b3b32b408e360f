/-
  The evaluator is right: results, regions, code, calls.
-/
import Derived.Test.YtcejefmekkiboaaEvEvU2
import Derived.LoopN
import Derived.ScopeJumps
set_option linter.unusedVariables false
set_option linter.unusedSimpArgs false
set_option linter.unnecessarySimpa false
namespace Go.Ev
open Go.RowKit
section
variable {P:Program} {Γ:Nat→Option FD} {B:Nat} {w w' w1:World} {g g' g1:Ghost} {ρ ρ':Nat→D} {st st' st1:Store} {a:Act} {d:D} {o:Oper}
/-! ### Results -/
def vq (T:Array Value):ResultVar→Sem Value
 | .tmp t=>pure (T.getD t undef)
 | .cell a t=>do loadVar t (←asAddr (T.getD a undef))
theorem CS {T:Array Value} {rv:ResultVar} {r:Rs} {d:D} (hc:qW P rv=some r) (hr:oS ρ st r=some d) (he:EnvR w g ρ T) (hrel:Rel B w g st):∃v,(vq T rv).run P w=.ok v w∧VR w g d v:=by
 cases rv with
 |tmp t=>
  simp only[qW,Option.some.injEq]at hc
  subst hc
  simp only[oS,Option.some.injEq]at hr
  subst hr
  exact⟨_,rfl,he t⟩
 |cell t T'=>
  simp only[qW]at hc
  split at hc<;>try contradiction
  rename_i ag sz hag hsz
  cases hc
  simp only[oS]at hr
  have h1:=he t
  split at hr<;>try contradiction
  rename_i l off hl
  rw[hl]at h1
  obtain⟨b,hb,hu⟩:=h1.ptr_inv
  obtain⟨cs,hcs,hd⟩:=Option.bind_eq_some_iff.1 hr
  obtain⟨vs,T'',hh,hln,ho',hv,_⟩:=mz hrel hcs hb
  obtain⟨r,hr1,hr2⟩:=tS (P:=P) (T:=T') hag hsz b off cs (fun j=>vs.getD j Go.undef) hd ho' hv
  have h2:=hr2 w 0 (fun j hj=>by
   have hlt:j<vs.size:=by omega
   simp[bK hh,Array.getD,hlt])
  simp only[Nat.zero_add]at h2
  refine⟨r,?_,hr1⟩
  simp only[Instr.loadAt,Instr.sureAddr]at h2
  have hu':T.getD t undef=.pointer (some ⟨b,off,none⟩):=hu
  simp only[vq,hu',asAddr,pure_bind]
  simpa using h2
theorem ue {T:Array Value} (he:EnvR w g ρ T) (hrel:Rel B w g st):∀{l:List ResultVar} {rs:List Rs} {ds:List D},l.mapM (qW P)=some rs→rs.mapM (oS ρ st)=some ds→∃vs:List Value,(l.mapM (vq T)).run P w=.ok vs w∧VRs w g ds vs
 |[],rs,ds,h1,h2=>by
  simp at h1
  subst h1
  simp at h2
  subst h2
  exact⟨[],by simp,rfl,fun j d v p q=>by simp at p⟩
 |rv::l,rs,ds,h1,h2=>by
  simp only[List.mapM_cons,Option.pure_def,Option.bind_eq_bind,Option.bind_eq_some_iff,Option.some.injEq]at h1
  obtain⟨r,hr,rs',hrs,rfl⟩:=h1
  simp only[List.mapM_cons,Option.pure_def,Option.bind_eq_bind,Option.bind_eq_some_iff,Option.some.injEq]at h2
  obtain⟨d,hd,ds',hds,rfl⟩:=h2
  obtain⟨v,h3,h4⟩:=CS hr hd he hrel
  obtain⟨vs,h5,h6,h7⟩:=ue he hrel hrs hds
  refine⟨v::vs,by simp[List.mapM_cons,h3,h5],by simp[h6],fun j d' v' p q=>?_⟩
  cases j with
  |zero=>simp at p q;subst p;subst q;exact h4
  |succ j=>exact h7 j d' v' (by simpa using p) (by simpa using q)
theorem eh {fn:Func} {T:Array Value} {rs:List Rs} {r:D} (hc:fn.results.toList.mapM (qW P)=some rs) (hr:aI ρ st rs=some r) (he:EnvR w g ρ T) (hrel:Rel B w g st):∃v,(results fn T).run P w=.ok v w∧VR w g r v:=by
 have e:∀(w:World),(results fn T).run P w=((fn.results.toList.mapM (vq T)).run P w).andThen fun vs w'=>.ok (if h:vs.length=1 then vs[0]else .tuple vs.toArray) w':=fun w=>by
  have e1:results fn T=(do let vs ←fn.results.mapM (vq T);pure (if h:vs.size=1 then vs[0]else .tuple vs)):=by
   unfold results
   congr 1
  have e2:fn.results.mapM (vq T)=List.toArray<$>fn.results.toList.mapM (vq T):=Array.mapM_eq_mapM_toList
  rw[e1,e2]
  simp only[Sem.run_bind,Sem.run_map,Sem.run_pure]
  cases (fn.results.toList.mapM (vq T)).run P w with
  |halt x w'=>rfl
  |ok vs w'=>simp
 by_cases h1:∃r0,rs=[r0]
 ·obtain⟨r0,rfl⟩:=h1
  simp only[aI]at hr
  obtain⟨vs,h2,h3,h4⟩:=ue (ds:=[r]) he hrel hc (by simp[hr])
  match vs,h3 with
  |[v],_=>exact⟨v,by rw[e,h2];simp,h4 0 r v rfl rfl⟩
 ·have hr':(rs.mapM (oS ρ st)).map .tuple=some r:=by
   unfold aI at hr
   split at hr
   ·exact absurd ⟨_,rfl⟩ h1
   ·exact hr
  obtain⟨ds,hds,rfl⟩:=Option.map_eq_some_iff.1 hr'
  obtain⟨vs,h2,h3,h4⟩:=ue he hrel hc hds
  have hl:=(kq _ hds).1
  have hne:¬vs.length=1:=fun h=>h1 (by
   match rs,(show rs.length=1 by omega)with
   |[r0],_=>exact⟨r0,rfl⟩)
  refine⟨.tuple vs.toArray,by rw[e,h2];simp[hne],.tuple ds _ (by simpa using h3) (fun j d v p q=>h4 j d v p (by simpa using q))⟩
/-! ### The statement -/
def X.toExit:X→Exit
 | .normal=>.normal
 | .exit id=>.exit id
 | .ret=>.ret
 | .goto l=>.goto l
def kH (P:Program) (rest:Code) (l:Nat) (Q:Exit→Act→World→Prop):Nat→Act→World→Prop
 |0,_,_=>False
 |n+1,a,w=>rest.wp P (Exit.jump l (kH P rest l Q n) Q) a w
theorem lj {P:Program} {Q:Exit→Act→World→Prop} {a:Act} {w:World} {c rest:Code} (l:Nat) (n:Nat) (hf:findLabel c l=some rest) (first:c.wp P (Exit.jump l (kH P rest l Q n) Q) a w):(Code.scope c).wp P Q a w:=by
 intro b k cs
 have hg:gotoIn l (.inScope c::k)=some (.code rest::.inScope c::k):=by simp[gotoIn,hf]
 have key:∀n a w,kH P rest l Q n a w→∃e a' w',Q e a' w'∧Arrives P (lone (b.at a (.code rest::.inScope c::k)) cs w) b k cs e a' w':=by
  intro n
  induction n with
  |zero=>intro a w h;exact h.elim
  |succ n ih=>
   intro a w h
   obtain⟨e,a₁,w₁,hq,harr⟩:=h b (.inScope c::k) cs
   cases e with
   |normal=>exact⟨.normal,a₁,w₁,hq,Steps.trans harr (.one step_inScope)⟩
   |exit id=>exact⟨.exit id,a₁,w₁,hq,fun k' hk=>harr k' (by simp[exitTo,hk])⟩
   |goto l'=>
    obtain⟨rfl,hJ'⟩:=hq
    obtain⟨e₂,a₂,w₂,hq₂,harr₂⟩:=ih a₁ w₁ hJ'
    exact⟨e₂,a₂,w₂,hq₂,.of_steps (harr _ hg) harr₂⟩
   |ret=>exact⟨_,a₁,w₁,hq,harr⟩
   |panic ch=>exact⟨_,a₁,w₁,hq,harr⟩
   |outgrown=>exact⟨_,a₁,w₁,hq,harr⟩
 obtain⟨e,a₁,w₁,hq,harr⟩:=first b (.inScope c::k) cs
 cases e with
 |normal=>exact⟨.normal,a₁,w₁,hq,.head step_scope (Steps.trans harr (.one step_inScope))⟩
 |exit id=>exact⟨.exit id,a₁,w₁,hq,fun k' hk=>.head step_scope (harr k' (by simp[exitTo,hk]))⟩
 |goto l'=>
  obtain⟨rfl,hJ'⟩:=hq
  obtain⟨e₂,a₂,w₂,hq₂,harr₂⟩:=key n a₁ w₁ hJ'
  exact⟨e₂,a₂,w₂,hq₂,.of_steps (.head step_scope (harr _ hg)) harr₂⟩
 |ret=>exact⟨_,a₁,w₁,hq,.of_steps (.one step_scope) harr⟩
 |panic ch=>exact⟨_,a₁,w₁,hq,.of_steps (.one step_scope) harr⟩
 |outgrown=>exact⟨_,a₁,w₁,hq,.of_steps (.one step_scope) harr⟩
theorem HA {P:Program} {rest:Code} {l:Nat} {Q Q':Exit→Act→World→Prop} (h:∀e a w,Q e a w→Q' e a w):∀n a w,kH P rest l Q n a w→kH P rest l Q' n a w
 |0,_,_,hr=>hr
 |n+1,a,w,hr=>by
  refine wp_mono hr (fun e a w he=>?_)
  cases e with
  |goto l'=>exact⟨he.1,HA h n a w he.2⟩
  |_=>exact h _ _ _ he
def Post (B:Nat) (w:World) (g:Ghost) (st:Store) (nt:Nat) (a:Act) (x:X) (ρ':Nat→D) (st':Store):Exit→Act→World→Prop:=
 fun e a' w'=>e=x.toExit∧a'.defers=a.defers∧nt≤a'.tmps.size∧∃g',EnvR w' g' ρ' a'.tmps∧Step B w g st w' g' st'
theorem Post.from{nt:Nat} {x:X} {a1:Act} (hrel:Rel B w g st) (hs:Step B w g st w1 g1 st1) (hd:a1.defers=a.defers) {e:Exit} {a':Act} (h:Post B w1 g1 st1 nt a1 x ρ' st' e a' w'):Post B w g st nt a x ρ' st' e a' w':=by
 obtain⟨h1,h2,h3,g',h4,h5⟩:=h
 exact⟨h1,h2.trans hd,h3,g',h4,hs.trans hrel h5⟩
def Recs (P:Program) (l:List Op1) (ρ:Nat→D) (st:Store) (ρ':Nat→D) (st':Store) (fl:List Fl):Prop:=
 ∃(dv:Nat→D) (sv:Nat→Store) (kf:Nat→Fl),fl.length=l.length∧(∀j,j<l.length→fl[j]?=some (kf j))∧
  (∀i o1,l[i]?=some o1→Fact P o1 (ec ρ (fun j=>(l[j]?).bind (·.dst)) dv (fun _=>true) i) (cw st sv kf (fun _=>true) i) (dv i) ((kf i).eff (sv i) (cw st sv kf (fun _=>true) i)) (kf i))∧
  ρ'=ec ρ (fun j=>(l[j]?).bind (·.dst)) dv (fun _=>true) l.length∧st'=cw st sv kf (fun _=>true) l.length
structure Sound (P:Program) (Γ:Nat→Option FD) (n:Nat):Prop where
 pure_:∀{f ds r},aM Γ n f ds=some r→(∀d∈ds,d.freeA=true∧d.strip=d)→∀{B w g st} {vs:Array Value},Rel B w g st→VRs w g ds vs.toList→Hj P f∧Calls P f vs w (ei B w g st r)
 ro:∀{f ds st r},bs Γ n f ds st=some r→∀{B w g} {vs:Array Value},Rel B w g st→VRs w g ds vs.toList→Hj P f∧Calls P f vs w (ei B w g st r)
 rw_:∀{f ds st r st'},aQ Γ n f ds st=some (r,st')→∀{B w g} {vs:Array Value},Rel B w g st→VRs w g ds vs.toList→Hj P f∧Calls P f vs w (kL B w g st r st')
 ops:∀{l:List Op1} {ρ st ρ' st'},bt Γ n false l ρ st=some (ρ',st')→∀{mu nt ops os idx},cW P mu nt ops os=some l→idx.map (fun i=>ops[i]?)=os.map some→∀{B w g a},EnvR w g ρ a.tmps→nt≤a.tmps.size→Rel B w g st→
  ∀{Q:Exit→Act→World→Prop},(∀a' w',Post B w g st nt a .normal ρ' st' .normal a' w'→Q .normal a' w')→wpOps P ops Q idx a w
 draw:∀{l:List Op1} {ρ st ρ' st' fl},bp Γ n l ρ st=some (ρ',st',fl)→Recs P l ρ st ρ' st' fl
 code:∀{c' ρ st x ρ' st'},aW Γ n c' ρ st=some (x,ρ',st')→∀{mu c nt},aV P mu nt c=some c'→∀{B w g a},EnvR w g ρ a.tmps→nt≤a.tmps.size→Rel B w g st→c.wp P (Post B w g st nt a x ρ' st') a w
 loop:∀{c' ρ st x ρ' st'},aW Γ n (.loop c') ρ st=some (x,ρ',st')→∀{mu c nt},aV P mu nt c=some c'→∀{B w g a},EnvR w g ρ a.tmps→nt≤a.tmps.size→Rel B w g st→Code.rounds P c (Post B w g st nt a x ρ' st') n a w
 again:∀{l r' ρ st x ρ' st'},aW Γ n (.again l r') ρ st=some (x,ρ',st')→∀{mu r nt},aV P mu nt r=some r'→∀{B w g a},EnvR w g ρ a.tmps→nt≤a.tmps.size→Rel B w g st→kH P r l (Post B w g st nt a x ρ' st') n a w
theorem o6 {c:Code} {Q Q':Exit→Act→World→Prop} (h:∀e a w,Q e a w→Q' e a w):∀(n:Nat) (a:Act) (w:World),Code.rounds P c Q n a w→Code.rounds P c Q' n a w
 |0,_,_,hr=>hr
 |n+1,a,w,hr=>by
  rw[rounds_succ]at hr ⊢
  refine wp_mono hr (fun e a w he=>?_)
  cases e with
  |normal=>exact o6 h n a w he
  |_=>exact h _ _ _ he
/-! ### Calls -/
theorem VR.freeA_ {v:Value} (h:VR w g d v) (hf:d.freeA=true) (hs:d.strip=d) (g':Ghost) (hS:∀b o,g.S b o→g'.S b o):VR w g' d v:=by
 rw[←hs]
 refine iX d v h ?_ g' hS
 cases d<;>exact hf
theorem CH (hk:Known P Γ) {n:Nat} (ih:Sound P Γ n) {f:Nat} {ds:List D} {r:D} (h:aM Γ (n+1) f ds=some r) (hds:∀d∈ds,d.freeA=true∧d.strip=d) {vs:Array Value} (hrel:Rel B w g st) (hv:VRs w g ds vs.toList):Hj P f∧Calls P f vs w (ei B w g st r):=by
 simp only[aM]at h
 split at h<;>try contradiction
 ·rename_i cf hf
  have hko:aG P f cf.ro cf.mv=some cf:=hk f _ hf
  obtain⟨fn,c,h1,h2,h3,h4,h5⟩:=dm hko
  refine⟨h3,?_⟩
  split at h<;>try contradiction
  have hst0:Rel w.heap.size w ⟨g.S,fun _=>none,fun _=>none⟩ Store.empty:=⟨Nat.le_refl _,hrel.S,fun l x hx=>by simp[Store.empty]at hx,fun l l' b x x' hx=>by simp[Store.empty]at hx,fun t r ht=>by simp[Store.empty]at ht,fun t t' r r' ht=>by simp[Store.empty]at ht,fun t r l b ht=>by simp[Store.empty]at ht,fun _ _=>rfl,fun _ _=>rfl,fun l b h=>(by cases h),Nat.le_refl _,Nat.le_refl _⟩
  have hv':VRs w ⟨g.S,fun _=>none,fun _=>none⟩ ds vs.toList:=⟨hv.1,fun j d v p q=>(hv.2 j d v p q).freeA_ (hds d (List.mem_of_getElem? p)).1 (hds d (List.mem_of_getElem? p)).2 _ (fun _ _ h=>h)⟩
  have fin:∀(x:X) (ρ1:Nat→D) (st1:Store),x=.normal∨x=.ret→aW Γ n cf.body (enter ds) Store.empty=some (x,ρ1,st1)→
    ((aI ρ1 st1 cf.res).bind (eE st1))=some r→Calls P f vs w (ei B w g st r):=by
   intro x ρ1 st1 hx hrun hres
   refine calls_of_wp h1 h2 (wp_mono (ih.code hrun h4 (EnvR.enter_ hv' _) (by simp;omega) hst0) (fun e a' w' he=>?_))
   obtain⟨k1,k2,k3,g1,k4,k5⟩:=he
   obtain⟨r0,hr0,hfr⟩:=Option.bind_eq_some_iff.1 hres
   obtain⟨v,q1,q2⟩:=eh h5 hr0 k4 k5.rel
   have hR:=B9 (g0:=⟨g.S,fun _=>none,fun _=>none⟩) hrel rfl k5 q2 hfr
   rcases hx with rfl|rfl<;>subst k1<;>exact⟨k2,v,q1,hR⟩
  split at h<;>try contradiction
  ·rename_i ρ1 st1 hrun
   exact fin _ ρ1 st1 (.inl rfl) hrun h
  ·rename_i ρ1 st1 hrun
   exact fin _ ρ1 st1 (.inr rfl) hrun h
 ·rename_i F hf
  have hko:PrimOK P f F:=hk f _ hf
  exact⟨hko.enters,hko.calls B w g st _ vs r hrel hv h⟩
theorem AI (hk:Known P Γ) {n:Nat} (ih:Sound P Γ n) {f:Nat} {ds:List D} {r:D} (h:bs Γ (n+1) f ds st=some r) {vs:Array Value} (hrel:Rel B w g st) (hv:VRs w g ds vs.toList):Hj P f∧Calls P f vs w (ei B w g st r):=by
 simp only[bs]at h
 split at h
 ·rename_i hall
  refine ih.pure_ h (fun d hd=>?_) hrel hv.strip
  have hf:=List.all_eq_true.1 hall d hd
  obtain⟨d0,_,rfl⟩:=List.mem_map.1 hd
  exact⟨hf,cO hf⟩
 split at h
 ·split at h<;>try contradiction
  rename_i hall
  split at h<;>try contradiction
  rename_i r0 hr0
  split at h<;>try contradiction
  rename_i hap
  cases h
  have hall':=List.all_eq_true.1 hall
  have hst:∀d∈ds.map (seen st),d.freeA=true∧d.strip=d:=fun d hd=>by
   have hf:=hall' d hd
   obtain⟨d0,_,rfl⟩:=List.mem_map.1 hd
   exact⟨hf,nz hf⟩
  obtain⟨hE,hC⟩:=ih.pure_ hr0 hst (Bq w) (hv.seen hrel hall')
  exact⟨hE,hC.mono fun e w1 hR=>z7 hrel hap hR⟩
 split at h<;>try contradiction
 ·rename_i cf hf
  have hko:aG P f cf.ro cf.mv=some cf:=hk f _ hf
  obtain⟨fn,c,h1,h2,h3,h4,h5⟩:=dm hko
  refine⟨h3,?_⟩
  split at h<;>try contradiction
  have hst0:Rel B w g {st with lim:=st.next,tlim:=st.ntok}:=⟨hrel.base,hrel.S,hrel.box,hrel.inj,hrel.tok,hrel.uniq,hrel.apart,hrel.newι,hrel.newτ,hrel.ltι,Nat.le_refl _,Nat.le_refl _⟩
  have fin:∀(x:X) (ρ1:Nat→D) (st1:Store),x=.normal∨x=.ret→aW Γ n cf.body (enter (ds.map D.strip)) {st with lim:=st.next,tlim:=st.ntok}=some (x,ρ1,st1)→
    ((aI ρ1 st1 cf.res).bind (rH st1))=some r→Calls P f vs w (ei B w g st r):=by
   intro x ρ1 st1 hx hrun hres
   refine calls_of_wp h1 h2 (wp_mono (ih.code hrun h4 (EnvR.enter_ (hv.strip) _) (by simp;omega) hst0) (fun e a' w' he=>?_))
   obtain⟨k1,k2,k3,g1,k4,k5⟩:=he
   obtain⟨r0,hr0,hfr⟩:=Option.bind_eq_some_iff.1 hres
   unfold rH at hfr
   split at hfr<;>try contradiction
   rename_i hfree
   cases hfr
   obtain⟨v,q1,q2⟩:=eh h5 hr0 k4 k5.rel
   have hR:=A6 hrel k5 q2 hfree
   rcases hx with rfl|rfl<;>subst k1<;>exact⟨k2,v,q1,hR⟩
  split at h<;>try contradiction
  ·rename_i ρ1 st1 hrun
   exact fin _ ρ1 st1 (.inl rfl) hrun h
  ·rename_i ρ1 st1 hrun
   exact fin _ ρ1 st1 (.inr rfl) hrun h
 ·rename_i F hf
  have hko:PrimOK P f F:=hk f _ hf
  exact⟨hko.enters,hko.calls B w g st _ vs r hrel hv.strip h⟩
theorem Ch (hk:Known P Γ) {n:Nat} (ih:Sound P Γ n) {f:Nat} {ds:List D} {r:D} (h:aQ Γ (n+1) f ds st=some (r,st')) {vs:Array Value} (hrel:Rel B w g st) (hv:VRs w g ds vs.toList):Hj P f∧Calls P f vs w (kL B w g st r st'):=by
 simp only[aQ]at h
 split at h<;>try contradiction
 ·rename_i cf hf
  have hko:aG P f cf.ro cf.mv=some cf:=hk f _ hf
  obtain⟨fn,c,h1,h2,h3,h4,h5⟩:=dm hko
  refine⟨h3,?_⟩
  split at h
  ·split at h<;>try contradiction
   split at h<;>try contradiction
   rename_i hall
   split at h<;>try contradiction
   rename_i r0 hr0
   split at h<;>try contradiction
   simp only[Bool.and_eq_true]at hall
   have hall':=List.all_eq_true.1 hall.1.2
   have hst:∀d∈ds.map (seen st),d.freeA=true∧d.strip=d:=fun d hd=>by
    have hf:=hall' d hd
    obtain⟨d0,_,rfl⟩:=List.mem_map.1 hd
    exact⟨hf,nz hf⟩
   obtain⟨g',hs,hv'⟩:=va hrel hv hall' hall.2
   obtain⟨_,hC⟩:=ih.pure_ hr0 hst hs.rel hv'
   have e:=Option.some.inj h
   refine hC.mono fun e' w1 hR=>?_
   obtain⟨v,rfl,_,hmv⟩:=hR
   obtain⟨g2,k1,k2⟩:=hmv true
   rw[e]at k1 k2
   exact⟨v,g2,rfl,k1,hs.trans hrel k2⟩
  have fin:∀(x:X) (ρ1:Nat→D) (st1:Store),x=.normal∨x=.ret→aW Γ n cf.body (enter (ds.map D.strip)) st=some (x,ρ1,st1)→
    ((aI ρ1 st1 cf.res).map fun r=>(r.strip,st1))=some (r,st')→Calls P f vs w (kL B w g st r st'):=by
   intro x ρ1 st1 hx hrun hres
   refine calls_of_wp h1 h2 (wp_mono (ih.code hrun h4 (EnvR.enter_ (hv.strip) _) (by simp;omega) hrel) (fun e a' w' he=>?_))
   obtain⟨k1,k2,k3,g1,k4,k5⟩:=he
   obtain⟨r0,hr0,hfr⟩:=Option.map_eq_some_iff.1 hres
   cases hfr
   obtain⟨v,q1,q2⟩:=eh h5 hr0 k4 k5.rel
   have hR:kL B w g st r0.strip st' (.returned v) w':=⟨v,g1,rfl,q2.strip,k5⟩
   rcases hx with rfl|rfl<;>subst k1<;>exact⟨k2,v,q1,hR⟩
  split at h<;>try contradiction
  ·rename_i ρ1 st1 hrun
   exact fin _ ρ1 st1 (.inl rfl) hrun h
  ·rename_i ρ1 st1 hrun
   exact fin _ ρ1 st1 (.inr rfl) hrun h
 ·rename_i F hf
  have hko:PrimSOK P f F:=hk f _ hf
  exact⟨hko.enters,hko.calls B w g st _ vs r st' hrel hv.strip h⟩
/-! ### Regions -/
theorem EA {o1:Op1} {d:D} {Q:A→List A→Nat→List D→Prop} (h:((∀f as,o1.op≠.call f as)∧o1.op.runM o1.mv ρ st=some (d,st1))∨(∃f as k caps,o1.op=.call f as∧Q f as k caps)):o1.op≠.bad:=by
 intro e
 rcases h with⟨_,h⟩|⟨f,as,k,caps,h,_⟩
 ·rw[e]at h
  unfold O.runM at h
  split at h
  ·rename_i h1 h2;cases h2
  ·simp[O.run]at h
 ·rw[e]at h;cases h
theorem lb {mu:List Nat} {nt:Nat} {ops:Array Oper} {os:List Oper} {o1:Op1} {l:List Op1} (h:cW P mu nt ops os=some (o1::l)):∃o os',os=o::os'∧iV P mu nt ops o=some o1∧cW P mu nt ops os'=some l:=by
 cases os with
 |nil=>simp[cW]at h
 |cons o os'=>
  simp only[cW]at h
  split at h<;>try contradiction
  rename_i a b h1 h2
  cases h
  exact⟨o,os',rfl,h1,h2⟩
theorem jA {mu:List Nat} {nt:Nat} {ops:Array Oper} {os:List Oper} (h:cW P mu nt ops os=some []):os=[]:=by
 cases os with
 |nil=>rfl
 |cons o os'=>
  simp only[cW]at h
  split at h<;>simp at h
theorem HF {l:List Op1} {draw:Bool} {n:Nat} (h:bt Γ n draw l ρ st=some (ρ',st')) (hl:l=[]):ρ'=ρ∧st'=st:=by
 subst hl
 cases n<;>simp[bt]at h<;>exact⟨h.1.symm,h.2.symm⟩
theorem zA {n:Nat} (ih:Sound P Γ n) {o1:Op1} {l:List Op1} (h:bt Γ (n+1) false (o1::l) ρ st=some (ρ',st')) {mu:List Nat} {nt:Nat} {ops:Array Oper} {os:List Oper} {idx:List Nat} (hc:cW P mu nt ops os=some (o1::l)) (hi:idx.map (fun i=>ops[i]?)=os.map some)
  (he:EnvR w g ρ a.tmps) (hn:nt≤a.tmps.size) (hrel:Rel B w g st) {Q:Exit→Act→World→Prop} (hQ:∀a' w',Post B w g st nt a .normal ρ' st' .normal a' w'→Q .normal a' w'):wpOps P ops Q idx a w:=by
 obtain⟨o,os',rfl,hco,hcr⟩:=lb hc
 obtain⟨i,idx',rfl,hoi,hi'⟩:∃i idx',idx=i::idx'∧ops[i]?=some o∧idx'.map (fun i=>ops[i]?)=os'.map some:=by
  cases idx with
  |nil=>simp at hi
  |cons i idx'=>simp only[List.map_cons,List.cons.injEq]at hi;exact⟨i,idx',rfl,hi.1,hi.2⟩
 simp only[wpOps,hoi]
 have next:∀(d:D) (st1:Store) (v:Value) (w1:World) (g1:Ghost),bt Γ n false l (cy ρ o1.dst d) st1=some (ρ',st')→o1.dst=o.dst→o.dst.any (fun d=>decide (nt≤d))=false→VR w1 g1 d v→Step B w g st w1 g1 st1→wpOps P ops Q idx' (a.put o.dst v) w1:=by
  intro d st1 v w1 g1 hr hd hdn hv hs
  rw[hd]at hr
  refine ih.ops hr hcr hi' ((he.mono hs.ext).put hv hn hdn) (by rw[lV];exact hn) hs.rel (fun a' w' hp=>hQ a' w' (hp.from hrel hs (Hw _ _ _)))
 rcases vH h with⟨hg,hr⟩|⟨hg,d,st1,hr,hop⟩
 ·obtain⟨hw,hop,hd,hdn⟩:=dK hco he hg (fun h=>by cases h)
  simp only[hw,Bool.false_eq_true,if_false]
  exact next _ _ _ w g hr hd hdn .undef (.refl hrel)
 ·obtain⟨hw,hcop,hd,hdn⟩:=dK hco he hg (fun _=>EA hop)
  have hcop:=hcop rfl
  simp only[hw,if_true]
  left
  rcases hop with⟨hnc,hrun⟩|⟨f,as,k,caps,hcall,hf,hcc⟩
  ·obtain⟨nx,v,w1,g1,e1,e2,e3,e4⟩:=uJ (a:=a) hnc hcop hrun he hrel
   unfold Oper.wp
   rw[e1]
   rcases e2 with rfl|⟨rfl,rfl⟩
   ·exact next d st1 v w1 g1 hr hd hdn e3 e4
   ·exact next d st1 Go.undef w1 g1 hr hd hdn e3 e4
  ·rw[hcall]at hcop
   obtain⟨vs,q1,q2⟩:=pv hcop he hf
   unfold Oper.wp
   rcases hcc with⟨r,hro,hx⟩|⟨_,hrw⟩
   ·obtain⟨hE,hC⟩:=ih.ro hro hrel q1
    rw[q2 hE]
    rcases hx with⟨hx,_⟩|⟨_,hab⟩
    ·cases hx
    ·rw[Oper.upon_enter]
     refine hC.mono (fun e w1 hR=>?_)
     obtain⟨v,rfl,_,hmv⟩:=hR
     obtain⟨g1,k1,k2⟩:=hmv o1.mv
     rw[←hab]at k1 k2
     exact next d st1 v w1 g1 hr hd hdn k1 k2
   ·obtain⟨hE,hC⟩:=ih.rw_ hrw hrel q1
    rw[q2 hE,Oper.upon_enter]
    refine hC.mono (fun e w1 hR=>?_)
    obtain⟨v,g1,rfl,k1,k2⟩:=hR
    exact next d st1 v w1 g1 hr hd hdn k1 k2
theorem oC {ρ:Nat→D} {o1:Op1} {l:List Op1} {dv:Nat→D} (d:D):∀n,ec ρ (fun j=>((o1::l)[j]?).bind (·.dst)) (fun j=>match j with|0=>d|j+1=>dv j) (fun _=>true) (n+1)=ec (cy ρ o1.dst d) (fun j=>(l[j]?).bind (·.dst)) dv (fun _=>true) n
 |0=>rfl
 |n+1=>by
  have ih:=oC (ρ:=ρ) (o1:=o1) (l:=l) (dv:=dv) d n
  conv=>lhs;unfold ec
  conv=>rhs;unfold ec
  simp only[if_true,ih]
  rfl
theorem qO {st:Store} {sv:Nat→Store} {kf:Nat→Fl} (s:Store) (b:Fl):∀n,cw st (fun j=>match j with|0=>s|j+1=>sv j) (fun j=>match j with|0=>b|j+1=>kf j) (fun _=>true) (n+1)=cw (b.eff s st) sv kf (fun _=>true) n
 |0=>by simp[cw]
 |n+1=>by
  have ih:=qO (st:=st) (sv:=sv) (kf:=kf) s b n
  conv=>lhs;unfold cw
  conv=>rhs;unfold cw
  simp only[ih]
theorem Recs.cons {o1:Op1} {l:List Op1} {q:Fl} {fl:List Fl} (hf:Fact P o1 ρ st d st1 q) (h:Recs P l (cy ρ o1.dst d) st1 ρ' st' fl):Recs P (o1::l) ρ st ρ' st' (q::fl):=by
 obtain⟨dv,sv,kf,h2,h3,h4,h5,h6⟩:=h
 have es:q.eff st1 st=st1:=hf.eff_.symm
 refine⟨fun j=>match j with|0=>d|j+1=>dv j,fun j=>match j with|0=>st1|j+1=>sv j,fun j=>match j with|0=>q|j+1=>kf j,by simp[h2],fun j hj=>?_,fun i o2 hi=>?_,?_,?_⟩
 ·cases j with
  |zero=>rfl
  |succ j=>simpa using h3 j (by simpa using hj)
 ·cases i with
  |zero=>
   simp only[List.getElem?_cons_zero,Option.some.injEq]at hi
   subst hi
   show Fact P o1 ρ st d (q.eff st1 st) q
   rw[es]
   exact hf
  |succ i=>
   simp only[List.getElem?_cons_succ]at hi
   rw[oC,qO,es]
   exact h4 i o2 hi
 ·rw[List.length_cons,oC];exact h5
 ·rw[List.length_cons,qO,es];exact h6
/-! ### Calls that write to one row alone -/
theorem wu:∀(ds:List D) (st:Store),ds.flatMap D.rowOf=[]→uS ds st=st
 |[],_,_=>rfl
 |d::r,st,h=>by
  rw[List.flatMap_cons,List.append_eq_nil_iff]at h
  have e:uS (d::r) st=uS r st:=by cases d<;>first|rfl|(cases h.1;done)
  rw[e]
  exact wu r st h.2
theorem vR {p:Nat}:∀(ds:List D) (st:Store),ds.flatMap D.rowOf=[p]→uS ds st={st with boxes:=ap st.boxes p none}
 |[],_,h=>by cases h
 |d::r,st,h=>by
  rw[List.flatMap_cons]at h
  by_cases hd:∃l off sz n c,d=.rs l off sz n c
  ·obtain⟨l,off,sz,n,c,rfl⟩:=hd
   have h:l::r.flatMap D.rowOf=[p]:=h
   simp only[List.cons.injEq]at h
   obtain⟨rfl,h2⟩:=h
   exact wu r _ h2
  ·have e:uS (d::r) st=uS r st∧d.rowOf=[]:=by
    cases d<;>first|exact⟨rfl,rfl⟩|exact absurd ⟨_,_,_,_,_,rfl⟩ hd
   rw[e.2,List.nil_append]at h
   rw[e.1]
   exact vR r st h
theorem Af {p:Nat} {st st2:Store} (hb:st2.boxes p=st.boxes p) {ds:List D} (h:ds.flatMap D.rowOf=[p]):ds.map (seen st2)=ds.map (seen st):=by
 refine List.map_congr_left fun d hd=>?_
 cases d with
 |rs l off sz n c=>
  have hl:l∈ds.flatMap D.rowOf:=List.mem_flatMap.2 ⟨_,hd,List.mem_singleton.2 rfl⟩
  rw[h]at hl
  have:=List.mem_singleton.1 hl
  subst this
  simp only[seen,hb]
 |_=>rfl
theorem ux {r:D} (h1:aF r=false) (h2:dS r=false) (st:Store):aw true r st=(r,st):=by
 have key:∀v:D,(∀sz xs,v≠.slice .row sz xs)→ej st true v=(v,st):=fun v hv=>fp st true hv
 unfold aw
 simp only[h1,Bool.false_eq_true,if_false]
 cases r with
 |tuple vs=>
  cases vs with
  |nil=>exact key _ (fun sz xs h=>by cases h)
  |cons v vs=>
   have:=key v (fun sz xs h=>by subst h;cases h2)
   simp only[this]
 |slice t sz xs=>exact key _ (fun sz' xs' h=>by cases h;cases h2)
 |_=>exact key _ (fun sz xs h=>by cases h)
theorem wJ {r:D} (hf:r.free=true):aF r.strip=false∧dS r.strip=false:=by
 cases r with
 |tuple vs=>
  cases vs with
  |nil=>exact⟨rfl,rfl⟩
  |cons v vs=>
   have hf':(v::vs).all (fun| .agg cs=>cs.all D.free1|d=>d.free1)=true:=hf
   rw[List.all_cons,Bool.and_eq_true]at hf'
   cases v with
   |slice t sz xs=>cases t<;>exact⟨rfl,rfl⟩
   |agg cs=>cases cs with
    |nil=>exact⟨rfl,rfl⟩
    |cons c cs=>cases c with
     |slice t sz xs=>cases t<;>exact⟨rfl,rfl⟩
     |_=>exact⟨rfl,rfl⟩
   |tuple us=>cases hf'.1
   |_=>exact⟨rfl,rfl⟩
 |agg cs=>cases cs with
  |nil=>exact⟨rfl,rfl⟩
  |cons c cs=>cases c with
   |slice t sz xs=>cases t<;>exact⟨rfl,rfl⟩
   |_=>exact⟨rfl,rfl⟩
 |slice t sz xs=>cases t<;>exact⟨rfl,rfl⟩
 |_=>exact⟨rfl,rfl⟩
theorem jJ {r:D} (h1:aF r=false) (h2:dS r=false) {mv:Bool} {st:Store}:aw mv r st=(r,st):=by
 cases mv with
 |true=>exact ux h1 h2 st
 |false=>
  have key:∀v:D,(∀sz xs,v≠.slice .row sz xs)→ej st false v=(v,st):=fun v hv=>fp st false hv
  unfold aw
  simp only[h1,Bool.false_eq_true,if_false]
  cases r with
  |tuple vs=>
   cases vs with
   |nil=>exact key _ (fun sz xs h=>by cases h)
   |cons v vs=>
    have:=key v (fun sz xs h=>by subst h;cases h2)
    simp only[this]
  |slice t sz xs=>exact key _ (fun sz' xs' h=>by cases h;cases h2)
  |_=>exact key _ (fun sz xs h=>by cases h)
theorem zi {ds:List D} {p:Nat} {ps:List Nat} (h:lG ds=some (p,ps)):ds.flatMap D.rowOf=[p]:=by
 unfold lG at h
 split at h
 ·rename_i l hl
  cases h
  exact hl
 ·cases h
theorem yb {st st2:Store} {p:Nat} {ps:List Nat} (h:(Fl.v p ps).Agree st st2):jO st2 p ps=jO st p ps∧jh st2 p ps=jh st p ps:=by
 obtain⟨h1,h2,h3,h4,h5⟩:=h
 constructor
 ·unfold jO
  rw[h4,h5]
  congr 1
  funext q
  split
  ·rename_i hq
   rcases hq with rfl|hq
   ·exact h1
   ·exact h2 q hq
  ·rfl
 ·unfold jh
  rw[h1,h3,h4]
  congr 1
  rw[Bool.eq_iff_iff,List.all_eq_true,List.all_eq_true]
  constructor
  ·intro h q hq;have:=h q hq;rwa[h2 q hq]at this
  ·intro h q hq;have:=h q hq;rwa[h2 q hq]
theorem Ah {n:Nat} (ih:Sound P Γ n) {k:Nat} {ds:List D} {p:Nat} {ps:List Nat} (hcut:lG ds=some (p,ps)) {q:Fl} (h:(if Av Γ k=true then
   (if((ds.map (seen st)).all D.freeA&&fI st ds)=true then
    match aM Γ n k (ds.map (seen st))with
    |some r=>if(r.free&& !dS r)=true then some (r.strip,{st with boxes:=ap st.boxes p none},Fl.w p)else none
    |none=>none
   else none)
  else
   (if jh st p ps=true then
    match aQ Γ n k ds (jO st p ps)with
    |some (r,C1)=>if oc r p=true then some (r,{st with boxes:=ap st.boxes p (gRow (C1.boxes p))},Fl.v p ps)else none
    |none=>none
   else none))=some (d,st1,q)):∃p bx,(q=.w p∨∃ps,q=.v p ps)∧st1={st with boxes:=ap st.boxes p bx}∧∀st2:Store,q.Agree st st2→∀(B:Nat) (w:World) (g:Ghost) (vs:Array Value),Rel B w g st2→VRs w g ds vs.toList→Hj P k∧Calls P k vs w (kL B w g st2 d {st2 with boxes:=ap st2.boxes p bx}):=by
 have hrow:=zi hcut
 split at h
 ·split at h<;>try contradiction
  rename_i hall
  split at h<;>try contradiction
  rename_i r hr
  split at h<;>try contradiction
  rename_i hnr
  simp only[Option.some.injEq,Prod.mk.injEq]at h
  obtain⟨rfl,rfl,rfl⟩:=h
  simp only[Bool.and_eq_true,Bool.not_eq_true']at hnr
  simp only[Bool.and_eq_true]at hall
  refine⟨p,none,.inl rfl,rfl,fun st2 hag B w g vs hrel hv=>?_⟩
  obtain⟨a1,a2⟩:=hag
  have hall':=List.all_eq_true.1 hall.1
  rw[←Af a1 hrow]at hall' hr
  have hof:fI st2 ds=true:=by
   have:=hall.2
   unfold fI at this ⊢
   rw[a2]
   exact this
  obtain⟨g',hs,hv'⟩:=va hrel hv hall' hof
  have hst:∀d∈ds.map (seen st2),d.freeA=true∧d.strip=d:=fun d hd=>by
   have hf:=hall' d hd
   obtain⟨d0,_,rfl⟩:=List.mem_map.1 hd
   exact⟨hf,nz hf⟩
  obtain⟨hE,hC⟩:=ih.pure_ hr hst hs.rel hv'
  refine⟨hE,hC.mono fun e' w1 hR=>?_⟩
  obtain⟨v,g2,rfl,k1,k2⟩:=uZ hs.rel hR hnr.1 hnr.2
  rw[vR ds st2 hrow]at k2 hs
  exact⟨v,g2,rfl,k1,hs.trans hrel k2⟩
 ·split at h<;>try contradiction
  rename_i hok
  split at h<;>try contradiction
  rename_i r C1 hr
  split at h<;>try contradiction
  rename_i hres
  simp only[Option.some.injEq,Prod.mk.injEq]at h
  obtain⟨rfl,rfl,rfl⟩:=h
  refine⟨p,gRow (C1.boxes p),.inr ⟨ps,rfl⟩,rfl,fun st2 hag B w g vs hrel hv=>?_⟩
  obtain⟨e1,e2⟩:=yb hag
  refine Ec hrel hv (e2.trans hok) hres (fun gC hr' hv'=>?_)
  rw[e1]at hr' ⊢
  exact ih.rw_ hr hr' hv'
theorem yS {st st2:Store} {p:Nat} {ps:List Nat} (hp:p∈ps) (h1:∀q∈ps,st2.boxes q=st.boxes q) (h2:st2.next=st.next) (h3:st2.ntok=st.ntok):lx st2 p ps=lx st p ps:=by
 have e:jO st2 p ps=jO st p ps:=by
  unfold jO
  rw[h2,h3]
  congr 1
  funext q
  split
  ·rename_i hq
   exact h1 q (hq.elim (fun e=>e▸hp) id)
  ·rfl
 unfold lx
 rw[e,h2]
theorem zW {ds:List D} {p:Nat} {ps:List Nat} (h:qZ ds=some (p,ps)):p∈ps:=by
 unfold qZ at h
 split at h
 ·cases hl:(ds.flatMap D.ptrsOf).getLast? with
  |none=>rw[hl]at h;cases h
  |some y=>
   rw[hl]at h
   cases h
   exact List.mem_of_getLast? hl
 ·cases h
theorem xI {n:Nat} (ih:Sound P Γ n) {k:Nat} {ds:List D} {p:Nat} {ps:List Nat} {q:Fl} (hmem:p∈ps) (h:(match aQ Γ n k ds (lx st p ps)with
   |some (r,C1)=>if gz r=true then some (r,st,Fl.v st.next ps)else(fA st C1 r).map fun d=>(d,st,Fl.v st.next ps)
   |none=>none)=some (d,st1,q)):∃p bx,(q=.w p∨∃ps,q=.v p ps)∧st1={st with boxes:=ap st.boxes p bx}∧∀st2:Store,q.Agree st st2→∀(B:Nat) (w:World) (g:Ghost) (vs:Array Value),Rel B w g st2→VRs w g ds vs.toList→Hj P k∧Calls P k vs w (kL B w g st2 d {st2 with boxes:=ap st2.boxes p bx}):=by
 split at h<;>try contradiction
 rename_i r C1 hr
 have self:∀(p:Nat) (s:Store) (x:Option Box),s.boxes p=x→{s with boxes:=ap s.boxes p x}=s:=fun p s x hx=>by
  have:ap s.boxes p x=s.boxes:=by
   funext i
   by_cases e:i=p
   ·subst e;rw[ae,hx]
   ·rw[ab _ _ e]
  rw[this]
 split at h
 ·rename_i hres
  simp only[Option.some.injEq,Prod.mk.injEq]at h
  obtain⟨rfl,rfl,rfl⟩:=h
  refine⟨st.next,st.boxes st.next,.inr ⟨ps,rfl⟩,(self _ st _ rfl).symm,fun st2 hag B w g vs hrel hv=>?_⟩
  rw[self _ st2 _ hag.1]
  obtain⟨_,a2,_,a4,a5⟩:=hag
  have e1:=yS hmem a2 a4 a5
  refine Dt (C1:=C1) (l:=p) (ps:=ps) hrel hv hres (fun gC hr' hv'=>?_)
  rw[e1]at hr' ⊢
  exact ih.rw_ hr hr' hv'
 ·cases hnr:fA st C1 r with
  |none=>rw[hnr]at h;cases h
  |some d0=>
  rw[hnr]at h
  simp only[Option.map_some,Option.some.injEq,Prod.mk.injEq]at h
  obtain⟨rfl,rfl,rfl⟩:=h
  refine⟨st.next,st.boxes st.next,.inr ⟨ps,rfl⟩,(self _ st _ rfl).symm,fun st2 hag B w g vs hrel hv=>?_⟩
  rw[self _ st2 _ hag.1]
  obtain⟨_,a2,_,a4,a5⟩:=hag
  have e1:=yS hmem a2 a4 a5
  have hnr2:fA st2 C1 r=some d0:=by
   rw[←hnr]
   unfold fA
   rw[a4]
  refine zo (C1:=C1) (l:=p) (ps:=ps) hrel hv hnr2 (fun gC hr' hv'=>?_)
  rw[e1]at hr' ⊢
  exact ih.rw_ hr hr' hv'
theorem xX {n:Nat} (ih:Sound P Γ n) {o1:Op1} {l:List Op1} {fl:List Fl} (h:bp Γ (n+1) (o1::l) ρ st=some (ρ',st',fl)):Recs P (o1::l) ρ st ρ' st' fl:=by
 simp only[bp]at h
 split at h
 ·cases h
 ·rename_i hg
  split at h<;>try contradiction
  rename_i ρ1 s1 fl1 hr
  simp only[Option.some.injEq,Prod.mk.injEq]at h
  obtain⟨rfl,rfl,rfl⟩:=h
  exact Recs.cons (.inl ⟨hg,rfl,rfl,rfl⟩) (ih.draw hr)
 ·rename_i hg
  split at h<;>try contradiction
  rename_i d st1 q hop
  split at h<;>try contradiction
  rename_i ρ1 s1 fl1 hr
  simp only[Option.some.injEq,Prod.mk.injEq]at h
  obtain⟨rfl,rfl,rfl⟩:=h
  refine Recs.cons (.inr ⟨hg,?_⟩) (ih.draw hr)
  split at hop
  ·rename_i f as hcall
   right
   split at hop<;>try contradiction
   rename_i k caps hf
   refine⟨f,as,k,caps,hcall,hf,?_⟩
   split at hop
   ·rename_i hall
    split at hop
    ·rename_i x hx
     have hstp:∀d∈(as.map (·.ev ρ)++caps).map D.strip,d.freeA=true∧d.strip=d:=fun d hd=>by
      have hf:=List.all_eq_true.1 hall d hd
      obtain⟨d0,_,rfl⟩:=List.mem_map.1 hd
      exact⟨hf,cO hf⟩
     split at hop
     ·split at hop<;>try contradiction
      rename_i hmv
      simp only[Bool.and_eq_true,Bool.not_eq_true']at hmv
      simp only[Option.some.injEq,Prod.mk.injEq]at hop
      obtain⟨rfl,rfl,rfl⟩:=hop
      obtain⟨p1,p2⟩:=wJ hmv.2.1
      refine .inl ⟨rfl,rfl,x.strip,p1,?_,fun st2 B w g vs hrel hv=>?_⟩
      ·rw[jJ p1 p2]
      ·obtain⟨hE,hC⟩:=ih.pure_ hx hstp hrel hv.strip
       refine⟨hE,hC.mono fun e w1 hR=>?_⟩
       have same:Same w g st2 w1:=by
        obtain⟨_,_,same,_⟩:=hR
        exact same
       obtain⟨v,g3,rfl,k1,k2⟩:=uZ hrel hR hmv.2.1 hmv.2.2
       refine⟨v,rfl,same,fun mv=>⟨g3,?_,?_⟩⟩
       ·rw[jJ p1 p2];exact k1
       ·rw[jJ p1 p2];exact k2
     rename_i hnf
     split at hop
     ·rename_i hmr
      simp only[Option.some.injEq,Prod.mk.injEq]at hop
      obtain⟨rfl,rfl,rfl⟩:=hop
      simp only[Bool.and_eq_true]at hmr
      exact .inr (.inr (.inl ⟨rfl,x,hmr.2,by simpa using hnf,rfl,rfl,fun st2 B w g vs hrel hv=>ih.pure_ hx (fun d hd=>by
       have hf:=List.all_eq_true.1 hall d hd
       obtain⟨d0,_,rfl⟩:=List.mem_map.1 hd
       exact⟨hf,cO hf⟩) hrel hv.strip⟩))
     simp only[Option.some.injEq,Prod.mk.injEq]at hop
     obtain⟨rfl,rfl,rfl⟩:=hop
     refine .inl ⟨rfl,rfl,x,by simpa using hnf,rfl,fun st2 B w g vs hrel hv=>ih.pure_ hx (fun d hd=>?_) hrel hv.strip⟩
     have hf:=List.all_eq_true.1 hall d hd
     obtain⟨d0,_,rfl⟩:=List.mem_map.1 hd
     exact⟨hf,cO hf⟩
    ·split at hop<;>try contradiction
     rename_i x s2 hx
     simp only[Option.some.injEq,Prod.mk.injEq]at hop
     obtain⟨rfl,rfl,rfl⟩:=hop
     exact .inr (.inr (.inr (.inl ⟨rfl,fun B w g vs hrel hv=>ih.rw_ hx hrel hv⟩)))
   split at hop
   ·split at hop
    ·rename_i p ps hcut
     exact .inr (.inr (.inr (.inr (Ah ih hcut hop))))
    ·split at hop<;>try contradiction
     rename_i p ps hcut
     exact .inr (.inr (.inr (.inr (xI ih (zW hcut) hop))))
   ·split at hop
    ·rename_i x hx
     split at hop<;>try contradiction
     rename_i hnf
     simp only[Option.some.injEq,Prod.mk.injEq]at hop
     obtain⟨rfl,rfl,rfl⟩:=hop
     exact .inr (.inl ⟨rfl,rfl,x,by simpa using hnf,rfl,fun B w g vs hrel hv=>ih.ro hx hrel hv⟩)
    ·split at hop<;>try contradiction
     rename_i x s2 hx
     simp only[Option.some.injEq,Prod.mk.injEq]at hop
     obtain⟨rfl,rfl,rfl⟩:=hop
     exact .inr (.inr (.inr (.inl ⟨rfl,fun B w g vs hrel hv=>ih.rw_ hx hrel hv⟩)))
  ·rename_i op hcall
   left
   split at hop<;>try contradiction
   rename_i d' s' hrun
   simp only[Option.some.injEq,Prod.mk.injEq]at hop
   obtain⟨rfl,rfl,rfl⟩:=hop
   exact⟨fun f as e=>hcall f as e,hrun,rfl⟩
theorem lK {mu:List Nat} {nt:Nat} {ops:Array Oper}:∀{os:List Oper} {l:List Op1},cW P mu nt ops os=some l→os.length=l.length∧∀(i:Nat) o,os[i]?=some o→∃o1,l[i]?=some o1∧iV P mu nt ops o=some o1
 |os,[],h=>by
  have:=jA h
  subst this
  exact⟨rfl,fun i o h=>by simp at h⟩
 |os,o1::l,h=>by
  obtain⟨o,os',rfl,h1,h2⟩:=lb h
  obtain⟨h3,h4⟩:=lK h2
  refine⟨by simp[h3],fun i o' hi=>?_⟩
  cases i with
  |zero=>simp at hi;subst hi;exact⟨o1,rfl,h1⟩
  |succ i=>simpa using h4 i o' (by simpa using hi)
theorem Fl.eff_eff (k:Fl) (s X Y:Store):k.eff (k.eff s X) Y=k.eff s Y:=by
 cases k<;>simp[Fl.eff,ae]
theorem E8 (x:O) (mv:Bool) (ρ:Nat→D) (p:Nat):x.acc mv ρ≠.a p:=by
 cases x<;>simp only[O.acc]<;>first|(intro h;cases h;done)|(split<;>intro h<;>cases h)
theorem qB (hm:P.follows .mixedOrders=true) {l:List Op1} {fl:List Fl} (hrec:Recs P l ρ st ρ' st' fl) {mu:List Nat} {nt id:Nat} {ops:Array Oper} (hc:cW P mu nt ops ops.toList=some l)
  (hsl:ut (kY ops.toList) l=true) (haf:uL ops.toList=true) (hfl:bB (kY ops.toList) fl=true) (he:EnvR w g ρ a.tmps) (hn:nt≤a.tmps.size) (hrel:Rel B w g st):(Code.region id ops true).wp P (Post B w g st nt a .normal ρ' st') a w:=by
 obtain⟨dv,sv,kf,h2,h3,h4,h5,h6⟩:=hrec
 obtain⟨hlen,hget⟩:=lK hc
 have hN:ops.size=l.length:=by simpa using hlen
 generalize hdst:(fun(j:Nat)=>(l[j]?).bind Op1.dst)=dst at*
 have hafter:∀i o,ops[i]?=some o→∀e∈o.after,Region.binds .any e=true→e.on<i:=fun i o ho e he hb=>by
  have hi:i<ops.size:=(Array.getElem?_eq_some_iff.1 ho).1
  have:=List.all_eq_true.1 haf i (by simp;omega)
  simp only[Array.getElem?_toList,ho,List.all_eq_true,Bool.or_eq_true,Bool.not_eq_true',decide_eq_true_eq]at this
  rcases this e (by simpa using he)with h|h
  ·rw[hb]at h;cases h
  ·exact h
 have slots:∀(i j:Nat) x y,i<j→l[i]?=some x→l[j]?=some y→clash x y=true→i∈(kY ops.toList).getD j []:=fun i j x y hij hx hy hcl=>by
  have hj:j<l.length:=(List.getElem?_eq_some_iff.1 hy).1
  have:=List.all_eq_true.1 (List.all_eq_true.1 hsl j (by simpa using hj)) i (by simpa using hij)
  simp only[hx,hy,hcl,Bool.not_true,Bool.false_or,List.contains_iff_mem]at this
  exact this
 have flags:∀(i j:Nat),i<j→j<l.length→(kf i).clash (kf j)=true→i∈(kY ops.toList).getD j []:=fun i j hij hj hcl=>by
  have:=List.all_eq_true.1 (List.all_eq_true.1 hfl j (by simp;omega)) i (by simpa using hij)
  simp only[h3 i (by omega),h3 j hj,hcl,Bool.not_true,Bool.or_false,List.contains_iff_mem]at this
  exact this
 let I:(Nat→Bool)→Act→World→Prop:=fun S a' w'=>a'.defers=a.defers∧nt≤a'.tmps.size∧∃g',Step B w g st w' g' (cw st sv kf S l.length)∧EnvR w' g' (ec ρ dst dv S l.length) a'.tmps
 refine wp_region_any hm (qw I hafter ?_ ?_ ops.size (Array.replicate ops.size false) a _ (by simp) (by simp) ?_ ?_)
 · -- one operation
   intro S i o a1 w1 K hI hD hSi ho hall hK
   obtain⟨i1,i2,g1,i3,i4⟩:=hI
   have hi:i<ops.size:=(Array.getElem?_eq_some_iff.1 ho).1
   obtain⟨o1,hl1,hco⟩:=hget i o (by simpa using ho)
   have hbef:∀j,j∈(kY ops.toList).getD i []→S j=true:=kw hD i o ho hall
   have hbef2:∀j,j<l.length→i∈(kY ops.toList).getD j []→S j=false:=fun j hj hij=>by
    cases hSj:S j with
    |false=>rfl
    |true=>
     have hoj:ops[j]?=some (ops[j]'(by omega)):=Array.getElem?_eq_getElem _
     have:=kw hD j _ hoj (fun e he hb=>hD j _ hSj hoj e he hb) i hij
     rw[hSi]at this
     cases this
   have hdj:∀j x,l[j]?=some x→dst j=x.dst:=fun j x hx=>by rw[←hdst];simp[hx]
   have hdn:∀j t,dst j=some t→∃x,l[j]?=some x∧x.dst=some t:=fun j t h=>by
    rw[←hdst]at h
    simp only[Option.bind_eq_some_iff]at h
    exact h
   have hread:∀t∈o1.rd,ec ρ dst dv (fun _=>true) i t=ec ρ dst dv S l.length t:=fun t ht=>by
    rw[←yA ρ dst dv i l.length (by omega)]
    refine gr ρ dst dv l.length (fun j hj hjt=>?_)
    obtain⟨x,hx,hxt⟩:=hdn j t hjt
    rcases Nat.lt_trichotomy j i with h|h|h
    ·simp only[h,decide_true]
     exact(hbef j (slots j i x o1 h hx hl1 (by simp[clash,hxt,ht]))).symm
    ·subst h;simp[hSi]
    ·simp only[show¬j<i by omega,decide_false]
     exact(hbef2 j hj (slots i j o1 x h hl1 hx (by simp only[clash,hxt,Bool.or_eq_true];right;simpa using ht))).symm
   have hstore:(kf i).Agree (cw st sv kf (fun _=>true) i) (cw st sv kf S l.length):=by
    rw[←AM st sv kf i l.length (by omega)]
    refine sw st sv kf (kf i) l.length (fun j hj hcl=>?_)
    rcases Nat.lt_trichotomy j i with h|h|h
    ·simp only[h,decide_true]
     exact(hbef j (flags j i h (by omega) hcl)).symm
    ·subst h;simp[hSi]
    ·simp only[show¬j<i by omega,decide_false]
     exact(hbef2 j hj (flags i j h hj (by rw[Fl.clash_symm];exact hcl))).symm
   have hF:=(h4 i o1 hl1).move hread hstore
   have e1:(kf i).eff ((kf i).eff (sv i) (cw st sv kf (fun _=>true) i)) (cw st sv kf S l.length)=(kf i).eff (sv i) (cw st sv kf S l.length):=Fl.eff_eff _ _ _ _
   rw[e1]at hF
   unfold wpOp
   simp only[ho]
   refine hF.exec hco i4 i3.rel (fun v w2 g2 hd hdn' hv hs=>hK _ _ ?_)
   refine⟨by rw[Hw];exact i1,by rw[lV];exact i2,g2,?_,?_⟩
   · -- the store
     have:cw st sv kf (fun j=>S j||j==i) l.length=(kf i).eff (sv i) (cw st sv kf S l.length):=by
      refine tN st sv kf hSi l.length (by omega) (fun j h1 h2 h3=>?_)
      cases hcl:(kf i).clash (kf j)with
      |false=>rfl
      |true=>
       have:=hbef2 j h2 (flags i j h1 h2 hcl)
       rw[this]at h3;cases h3
     rw[this]
     exact i3.trans hrel hs
   ·have:ec ρ dst dv (fun j=>S j||j==i) l.length=cy (ec ρ dst dv S l.length) o.dst (dv i):=by
     have hdi:dst i=o.dst:=by rw[hdj i o1 hl1,hd]
     funext t
     by_cases ht:o.dst=some t
     ·rw[ht,ol]
      refine oy ρ dst dv (hdi.trans ht) (by simp) l.length (by omega) (fun j h1 h2 h3 h4=>?_)
      obtain⟨x,hx,hxt⟩:=hdn j t h4
      have:=hbef2 j h2 (slots i j o1 x h1 hl1 hx (by simp[clash,hxt,hd,ht]))
      simp only[this,Bool.false_or,beq_iff_eq]at h3
      omega
     ·rw[pE ht]
      refine gr ρ dst dv l.length (fun j hj hjt=>?_)
      have:j≠i:=by rintro rfl;rw[hdi]at hjt;exact ht hjt
      simp[this]
    rw[this]
    exact(i4.mono hs.ext).put hv i2 hdn'
 · -- all have come up
   intro S a1 w1 hI hall _
   obtain⟨i1,i2,g1,i3,i4⟩:=hI
   have e1:ec ρ dst dv S l.length=ρ':=by
    rw[h5]
    funext t
    exact gr ρ dst dv l.length (fun j hj _=>by rw[hall j (by omega)])
   have e2:cw st sv kf S l.length=st':=by
    rw[h6]
    exact pO st sv kf l.length (fun j hj=>.inr (by rw[hall j (by omega)]))
   rw[e1]at i4
   rw[e2]at i3
   exact⟨rfl,i1,i2,g1,i4,i3⟩
 ·intro i o h
  simp[Array.getD]at h
 ·have e0:∀n,ec ρ dst dv (fun j=>(Array.replicate ops.size false).getD j false) n=ρ:=by
   intro n
   induction n with
   |zero=>rfl
   |succ n ihn=>
    unfold ec
    have:(Array.replicate ops.size false).getD n false=false:=by simp[Array.getD]
    rw[this,if_neg (by simp)]
    exact ihn
  have e1:∀n,cw st sv kf (fun j=>(Array.replicate ops.size false).getD j false) n=st:=by
   intro n
   induction n with
   |zero=>rfl
   |succ n ihn=>
    unfold cw
    have:(Array.replicate ops.size false).getD n false=false:=by simp[Array.getD]
    rw[this,if_neg (by simp)]
    exact ihn
  refine⟨rfl,hn,g,?_,?_⟩
  ·rw[e1];exact Step.below_ hrel (cP w)
  ·rw[e0];exact he.mono (Ext.below_ hrel (cP w))
/-! ### .. whose allocations are made ahead -/
theorem tu {n p:Nat} {o:Op1} {f:Nat→Option Box} (h:p≠n):kS n o f p=f p:=by
 obtain⟨_,_,_,op⟩:=o
 cases op<;>first|exact ab _ _ h|rfl
theorem Aj {n:Nat} {o:Op1} {f:Nat→Option Box} {z:List D} (h:o.op=.alloc z):kS n o f n=some (.cells z):=by
 unfold kS
 rw[h]
 exact ae _ _ _
theorem zE {n:Nat} {o:Op1} {f:Nat→Option Box} (h:∀z,o.op≠.alloc z):kS n o f=f:=by
 unfold kS
 split
 ·rename_i z hz;exact absurd hz (h z)
 ·rfl
theorem mr:∀(l:List Op1) (n i:Nat),(gM n l)[i]?=(l[i]?).map (gw (n+i))
 |[],n,i=>by simp[gM]
 |o::l,n,0=>by simp[gM]
 |o::l,n,i+1=>by
  simp only[gM,List.getElem?_cons_succ]
  rw[mr l (n+1) i,show n+1+i=n+(i+1)by omega]
theorem rY:∀(l:List Op1) (n:Nat),(gM n l).length=l.length
 |[],n=>rfl
 |o::l,n=>by simp[gM,rY l (n+1)]
theorem mi:∀(l:List Op1) (n:Nat) (f:Nat→Option Box) (p:Nat),p<n∨n+l.length≤p→jc n l f p=f p
 |[],n,f,p,h=>rfl
 |o::l,n,f,p,h=>by
  simp only[jc]
  rw[mi l (n+1) _ p (by simp at h;omega),tu (by simp at h;omega)]
theorem wb:∀(l:List Op1) (n:Nat) (f:Nat→Option Box) (k:Nat) (o:Op1) (z:List D),l[k]?=some o→o.op=.alloc z→jc n l f (n+k)=some (.cells z)
 |[],n,f,k,o,z,h,_=>by simp at h
 |o::l,n,f,0,o',z,h,hz=>by
  simp at h
  subst h
  simp only[jc]
  rw[mi l (n+1) _ (n+0) (by omega)]
  exact Aj hz
 |o::l,n,f,k+1,o',z,h,hz=>by
  simp only[jc]
  rw[show n+(k+1)=n+1+k by omega]
  exact wb l (n+1) _ k o' z (by simpa using h) hz
theorem we:∀(l:List Op1) (n:Nat) (f:Nat→Option Box) (k:Nat) (o:Op1),l[k]?=some o→(∀z,o.op≠.alloc z)→jc n l f (n+k)=f (n+k)
 |[],n,f,k,o,h,_=>by simp at h
 |o::l,n,f,0,o',h,hz=>by
  simp at h
  subst h
  simp only[jc]
  rw[mi l (n+1) _ (n+0) (by omega),zE hz]
 |o::l,n,f,k+1,o',h,hz=>by
  simp only[jc]
  rw[show n+(k+1)=n+1+k by omega,we l (n+1) _ k o' (by simpa using h) hz,tu (by omega)]
theorem wT (n:Nat) (o:Op1):(gw n o).dst=o.dst:=by unfold gw;split<;>rfl
theorem zp {n:Nat} {o:Op1} (h:∀z,o.op≠.alloc z):gw n o=o:=by
 unfold gw
 split
 ·rename_i z hz;exact absurd hz (h z)
 ·rfl
theorem zU {n:Nat} {o:Op1} {z:List D} (h:o.op=.alloc z):gw n o=⟨o.dst,o.guard,o.mv,.mov (.lit (.ptr n 0))⟩:=by unfold gw;rw[h]
theorem o0 (hm:P.follows .mixedOrders=true) {l:List Op1} {fl:List Fl} (hrec:Recs P (gM st.next l) ρ (st.ahead l) ρ' st' fl) {mu:List Nat} {nt id:Nat} {ops:Array Oper} (hc:cW P mu nt ops ops.toList=some l)
  (hsl:ut (kY ops.toList) l=true) (haf:uL ops.toList=true) (hal:FL l=true) (hfl:bB (kY ops.toList) fl=true) (htc:jI (kY ops.toList) st.next fl=true) (he:EnvR w g ρ a.tmps) (hn:nt≤a.tmps.size) (hrel:Rel B w g st):(Code.region id ops true).wp P (Post B w g st nt a .normal ρ' st') a w:=by
 obtain⟨dv,sv,kf,h2,h3,h4,h5,h6⟩:=hrec
 rw[rY]at h2 h3 h5 h6
 obtain⟨hlen,hget⟩:=lK hc
 have hN:ops.size=l.length:=by simpa using hlen
 have hdst0:(fun(j:Nat)=>((gM st.next l)[j]?).bind Op1.dst)=fun(j:Nat)=>(l[j]?).bind Op1.dst:=by
  funext j
  rw[mr]
  cases l[j]? with
  |none=>rfl
  |some o=>exact wT _ o
 rw[hdst0]at h4 h5
 generalize hdst:(fun(j:Nat)=>(l[j]?).bind Op1.dst)=dst at*
 have hafter:∀i o,ops[i]?=some o→∀e∈o.after,Region.binds .any e=true→e.on<i:=fun i o ho e he hb=>by
  have hi:i<ops.size:=(Array.getElem?_eq_some_iff.1 ho).1
  have:=List.all_eq_true.1 haf i (by simp;omega)
  simp only[Array.getElem?_toList,ho,List.all_eq_true,Bool.or_eq_true,Bool.not_eq_true',decide_eq_true_eq]at this
  rcases this e (by simpa using he)with h|h
  ·rw[hb]at h;cases h
  ·exact h
 have slots:∀(i j:Nat) x y,i<j→l[i]?=some x→l[j]?=some y→clash x y=true→i∈(kY ops.toList).getD j []:=fun i j x y hij hx hy hcl=>by
  have hj:j<l.length:=(List.getElem?_eq_some_iff.1 hy).1
  have:=List.all_eq_true.1 (List.all_eq_true.1 hsl j (by simpa using hj)) i (by simpa using hij)
  simp only[hx,hy,hcl,Bool.not_true,Bool.false_or,List.contains_iff_mem]at this
  exact this
 have flags:∀(i j:Nat),i<j→j<l.length→(kf i).clash (kf j)=true→i∈(kY ops.toList).getD j []:=fun i j hij hj hcl=>by
  have:=List.all_eq_true.1 (List.all_eq_true.1 hfl j (by simp;omega)) i (by simpa using hij)
  simp only[h3 i (by omega),h3 j hj,hcl,Bool.not_true,Bool.or_false,List.contains_iff_mem]at this
  exact this
 have hdj:∀j x,l[j]?=some x→dst j=x.dst:=fun j x hx=>by rw[←hdst];simp[hx]
 have hdn:∀j t,dst j=some t→∃x,l[j]?=some x∧x.dst=some t:=fun j t h=>by
  rw[←hdst]at h
  simp only[Option.bind_eq_some_iff]at h
  exact h
 have out:∀(j:Nat),j<l.length→∀K:Nat→Bool,(∀p,K p=true→st.next≤p∧p<st.next+l.length∧(p - st.next)∉(kY ops.toList).getD j [])→(kf j).out K:=fun j hj K hK=>by
  have ht:=List.all_eq_true.1 htc j (by simp;omega)
  rw[h3 j hj]at ht
  have hp:∀p,rG ((kY ops.toList).getD j []) st.next fl.length p=true→K p=false:=fun p hp=>by
   cases hKp:K p with
   |false=>rfl
   |true=>
    exfalso
    obtain⟨k1,k3,k2⟩:=hK p hKp
    simp only[rG,Bool.or_eq_true,decide_eq_true_eq,List.contains_iff_mem]at hp
    rcases hp with (hp|hp)|hp
    ·omega
    ·omega
    ·exact k2 hp
  cases hk:kf j with
  |n=>trivial
  |t=>trivial
  |r p=>rw[hk]at ht;exact hp p ht
  |w p=>rw[hk]at ht;exact hp p ht
  |a p=>
   rw[hk]at ht
   exact hp p (by simp only[rG];rw[show decide (st.next+fl.length≤p)=true from ht];simp)
  |v p ps=>
   rw[hk]at ht
   simp only[Bool.and_eq_true,List.all_eq_true]at ht
   exact⟨hp p ht.1,fun q hq=>hp q (ht.2 q hq)⟩
  |c=>rw[hk]at ht;cases ht
  |f=>rw[hk]at ht;cases ht
 have fact:∀(i:Nat) o1,l[i]?=some o1→(∀z,o1.op≠.alloc z)→Fact P o1 (ec ρ dst dv (fun _=>true) i) (cw (st.ahead l) sv kf (fun _=>true) i) (dv i) ((kf i).eff (sv i) (cw (st.ahead l) sv kf (fun _=>true) i)) (kf i):=fun i o1 hi hna=>by
  have:=h4 i (gw (st.next+i) o1) (by rw[mr,hi];rfl)
  rwa[zp hna]at this
 have gd:∀(i:Nat) o1 z,l[i]?=some o1→o1.op=.alloc z→o1.guard=none:=fun i o1 z hi hz=>by
  have h:=List.all_eq_true.1 hal o1 (List.mem_of_getElem? hi)
  simp only[hz]at h
  simpa using h
 have factA:∀(i:Nat) o1 z,l[i]?=some o1→o1.op=.alloc z→dv i=.ptr (st.next+i) 0∧kf i=.n:=fun i o1 z hi hz=>by
  have h:=h4 i (gw (st.next+i) o1) (by rw[mr,hi];rfl)
  rw[zU hz]at h
  have hgd:=gd i o1 z hi hz
  rcases h with⟨h1,_⟩|⟨_,h|⟨f,as,_,_,h,_⟩⟩
  ·rw[hgd]at h1;simp[ao]at h1
  ·obtain⟨_,h1,h2⟩:=h
   have e:∀(mv:Bool) (ρ:Nat→D) (st:Store) (d:D),(O.mov (.lit d)).runM mv ρ st=some (d,st):=fun mv _ _ _=>by cases mv<;>rfl
   rw[e]at h1
   simp only[Option.some.injEq,Prod.mk.injEq]at h1
   exact⟨h1.1.symm,h2⟩
  ·cases h
 have anext1:∀(i:Nat) p,i<l.length→kf i=.a p→(sv i).next=(cw (st.ahead l) sv kf (fun _=>true) i).next+1:=fun i p hi hk=>by
  obtain⟨o1,ho1⟩:∃o1,l[i]?=some o1:=⟨_,List.getElem?_eq_getElem hi⟩
  by_cases hz:∃z,o1.op=.alloc z
  ·obtain⟨z,hz⟩:=hz
   have:=(factA i o1 z ho1 hz).2
   rw[hk]at this;cases this
  ·have hF:=fact i o1 ho1 (fun z e=>hz ⟨z,e⟩)
   rw[hk]at hF
   rcases hF with⟨_,_,_,h⟩|⟨_,h⟩
   ·cases h
   ·rcases h with⟨_,_,h⟩|⟨f,as,k,caps,_,_,h⟩
    ·exact absurd h.symm (E8 _ _ _ _)
    ·rcases h with⟨h,_⟩|⟨h,_⟩|⟨h,x,q0,q1,q2,q3,_⟩|⟨h,_⟩|⟨p',bx,h,_⟩
     ·cases h
     ·cases h
     ·obtain⟨F,cs,hF⟩:=nA q0 q1
      rw[hF]at q3
      exact congrArg Store.next q3
     ·cases h
     ·rcases h with h|⟨_,h⟩<;>cases h
 have hX:∀n,n≤l.length→(st.ahead l).next≤(cw (st.ahead l) sv kf (fun _=>true) n).next:=fun n=>by
  induction n with
  |zero=>exact fun _=>Nat.le_refl _
  |succ n ih=>
   intro hnl
   have i1:=ih (by omega)
   have ht:=List.all_eq_true.1 htc n (by simp;omega)
   rw[h3 n (by omega)]at ht
   unfold cw
   rw[if_pos rfl]
   cases hk:kf n with
   |f=>rw[hk]at ht;cases ht
   |a p=>
    have:=anext1 n p (by omega) hk
    show _≤(sv n).next
    omega
   |_=>exact i1
 have anext:∀(i:Nat) p,i<l.length→kf i=.a p→(st.ahead l).next≤(sv i).next:=fun i p hi hk=>by
  have h1:=anext1 i p hi hk
  have h2:=hX i (by omega)
  omega
 have hst:∀(S:Nat→Bool) (K:Nat→Bool),(∀j,j<l.length→S j=true→(kf j).out K)→∀n,n≤l.length→
   (st.ahead l).next≤(cw (st.ahead l) sv kf S n).next∧(cw (st.ahead l) sv kf S n).lim=(st.ahead l).lim∧∀p,K p=true→(cw (st.ahead l) sv kf S n).boxes p=(st.ahead l).boxes p:=fun S K hK n=>by
  induction n with
  |zero=>exact fun _=>⟨Nat.le_refl _,rfl,fun _ _=>rfl⟩
  |succ n ih=>
   intro hnl
   obtain⟨i1,i2,i3⟩:=ih (by omega)
   unfold cw
   cases hS:S n with
   |false=>simpa using⟨i1,i2,i3⟩
   |true=>
    obtain⟨k1,k2,k3⟩:=Fl.out_kept (hK n (by omega) hS) (sv n) (cw (st.ahead l) sv kf S n)
    simp only[if_true]
    refine⟨?_,k2.trans i2,fun p hp=>(k3 p hp).trans (i3 p hp)⟩
    rcases k1 with k1|⟨⟨p,hp⟩,k1⟩
    ·rw[k1];exact i1
    ·rw[k1];exact anext n p (by omega) hp
 let K:(Nat→Bool)→Nat→Bool:=fun S p=>decide (st.next≤p)&&decide (p<st.next+l.length)&& !S (p - st.next)
 have hKi:∀S k,k<l.length→K S (st.next+k)= !S k:=fun S k hk=>by simp[K,hk]
 let I:(Nat→Bool)→Act→World→Prop:=fun S a' w'=>a'.defers=a.defers∧nt≤a'.tmps.size∧∃g',Step B w g st w' g' (dW (K S) (cw (st.ahead l) sv kf S l.length))∧EnvR w' g' (ec ρ dst dv S l.length) a'.tmps∧∀k,k<l.length→S k=false→g'.ι (st.next+k)=none
 have inS:∀S,BN ops S→st.next+l.length≤(cw (st.ahead l) sv kf S l.length).next∧(cw (st.ahead l) sv kf S l.length).lim=st.lim∧∀p,K S p=true→(cw (st.ahead l) sv kf S l.length).boxes p=(st.ahead l).boxes p:=fun S hD=>by
  refine hst S (K S) (fun j hj hSj=>out j hj (K S) (fun p hp=>?_)) l.length (Nat.le_refl _)
  simp only[K,Bool.and_eq_true,decide_eq_true_eq,Bool.not_eq_true']at hp
  refine⟨hp.1.1,hp.1.2,fun hmem=>?_⟩
  have hoi:ops[j]?=some (ops[j]'(by omega)):=Array.getElem?_eq_getElem _
  have:=kw hD j _ hoi (fun e he hb=>hD j _ hSj hoi e he hb) _ hmem
  rw[hp.2]at this;cases this
 refine wp_region_any hm (qw I hafter ?_ ?_ ops.size (Array.replicate ops.size false) a _ (by simp) (by simp) ?_ ?_)
 · -- one operation
   intro S i o a1 w1 Q1 hI hD hSi ho hall hQ1
   obtain⟨i1,i2,g1,i3,i4,i5⟩:=hI
   have hi:i<ops.size:=(Array.getElem?_eq_some_iff.1 ho).1
   obtain⟨o1,hl1,hco⟩:=hget i o (by simpa using ho)
   have hbef:∀j,j∈(kY ops.toList).getD i []→S j=true:=kw hD i o ho hall
   have hbef2:∀j,j<l.length→i∈(kY ops.toList).getD j []→S j=false:=fun j hj hij=>by
    cases hSj:S j with
    |false=>rfl
    |true=>
     have hoj:ops[j]?=some (ops[j]'(by omega)):=Array.getElem?_eq_getElem _
     have:=kw hD j _ hoj (fun e he hb=>hD j _ hSj hoj e he hb) i hij
     rw[hSi]at this
     cases this
   have hread:∀t∈o1.rd,ec ρ dst dv (fun _=>true) i t=ec ρ dst dv S l.length t:=fun t ht=>by
    rw[←yA ρ dst dv i l.length (by omega)]
    refine gr ρ dst dv l.length (fun j hj hjt=>?_)
    obtain⟨x,hx,hxt⟩:=hdn j t hjt
    rcases Nat.lt_trichotomy j i with h|h|h
    ·simp only[h,decide_true]
     exact(hbef j (slots j i x o1 h hx hl1 (by simp[clash,hxt,ht]))).symm
    ·subst h;simp[hSi]
    ·simp only[show¬j<i by omega,decide_false]
     exact(hbef2 j hj (slots i j o1 x h hl1 hx (by simp only[clash,hxt,Bool.or_eq_true];right;simpa using ht))).symm
   have hstore:(kf i).Agree (cw (st.ahead l) sv kf (fun _=>true) i) (cw (st.ahead l) sv kf S l.length):=by
    rw[←AM (st.ahead l) sv kf i l.length (by omega)]
    refine sw (st.ahead l) sv kf (kf i) l.length (fun j hj hcl=>?_)
    rcases Nat.lt_trichotomy j i with h|h|h
    ·simp only[h,decide_true]
     exact(hbef j (flags j i h (by omega) hcl)).symm
    ·subst h;simp[hSi]
    ·simp only[show¬j<i by omega,decide_false]
     exact(hbef2 j hj (flags i j h hj (by rw[Fl.clash_symm];exact hcl))).symm
   have hstn:cw (st.ahead l) sv kf (fun j=>S j||j==i) l.length=(kf i).eff (sv i) (cw (st.ahead l) sv kf S l.length):=by
    refine tN (st.ahead l) sv kf hSi l.length (by omega) (fun j h1 h2 h3=>?_)
    cases hcl:(kf i).clash (kf j)with
    |false=>rfl
    |true=>
     have:=hbef2 j h2 (flags i j h1 h2 hcl)
     rw[this]at h3;cases h3
   have henv:o1.dst=o.dst→ec ρ dst dv (fun j=>S j||j==i) l.length=cy (ec ρ dst dv S l.length) o.dst (dv i):=fun hd=>by
    have hdi:dst i=o.dst:=by rw[hdj i o1 hl1,hd]
    funext t
    by_cases ht:o.dst=some t
    ·rw[ht,ol]
     refine oy ρ dst dv (hdi.trans ht) (by simp) l.length (by omega) (fun j h1 h2 h3 h4=>?_)
     obtain⟨x,hx,hxt⟩:=hdn j t h4
     have:=hbef2 j h2 (slots i j o1 x h1 hl1 hx (by simp[clash,hxt,hd,ht]))
     simp only[this,Bool.false_or,beq_iff_eq]at h3
     omega
    ·rw[pE ht]
     refine gr ρ dst dv l.length (fun j hj hjt=>?_)
     have:j≠i:=by rintro rfl;rw[hdi]at hjt;exact ht hjt
     simp[this]
   obtain⟨n1,n2,n3⟩:=inS S hD
   unfold wpOp
   simp only[ho]
   by_cases hz:∃z,o1.op=.alloc z
   ·obtain⟨z,hz⟩:=hz
    obtain⟨hdv,hwi⟩:=factA i o1 z hl1 hz
    have hgd:=gd i o1 z hl1 hz
    obtain⟨hw1,hcop,hd,hdn'⟩:=dK hco i4 (b:=true) (by rw[hgd];rfl) (fun _=>by rw[hz];simp)
    have hcop:=hcop rfl
    rw[hz]at hcop
    obtain⟨T,hT⟩:=zH hcop
    rw[hT]at hcop
    simp only[aq,Option.bind_eq_bind,Option.bind_eq_some_iff,Option.some.injEq]at hcop
    obtain⟨z',hz',hzz⟩:=hcop
    obtain⟨ti,v,hi',hiz,hv,hone⟩:=kp hz'
    obtain⟨c1,c2⟩:=(hv (w1.alloc (.cells v.cells T)) g1).cells
    rw[if_pos hw1]
    left
    have hil:i<l.length:=by omega
    have hKS:K S (st.next+i)=true:=by rw[hKi S i hil,hSi];rfl
    have hs:=Step.nameAt i3.rel (.cells v.cells T) (x:=.cells z'.cells) (l0:=st.next+i) ⟨v.cells,T,heap_alloc_new w1 _,c1,hone,c2⟩ (i5 i hil hSi) (by show st.next+i<(cw (st.ahead l) sv kf S l.length).next;omega) hrel i3 (by omega) (by have:=hrel.limι;omega)
    have hrun:(execOp a1.eval o).run P w1=.ok (.value (.pointer (some ⟨w1.heap.size,0,none⟩))) (w1.alloc (.cells v.cells T)):=by simp[execOp,hT,Instr.alloc,zeroValue,typeInfo,hi',hiz,newVar,newRow,newObj,Sem.run]
    unfold Oper.wp
    rw[hrun]
    refine hQ1 _ _ ?_
    refine⟨by rw[Hw];exact i1,by rw[lV];exact i2,{g1 with ι:=ap g1.ι (st.next+i) (some w1.heap.size)},?_,?_,fun k hk hSk=>?_⟩
    ·rw[hstn,hwi,show Fl.n.eff (sv i) (cw (st.ahead l) sv kf S l.length)=cw (st.ahead l) sv kf S l.length from rfl]
     have e:dW (K fun j=>S j||j==i) (cw (st.ahead l) sv kf S l.length)={dW (K S) (cw (st.ahead l) sv kf S l.length)with boxes:=ap (dW (K S) (cw (st.ahead l) sv kf S l.length)).boxes (st.next+i) (some (.cells z'.cells))}:=by
      unfold dW
      simp only
      congr 1
      funext p
      by_cases e:p=st.next+i
      ·subst e
       have hKn:K (fun j=>S j||j==i) (st.next+i)=false:=(hKi (fun j=>S j||j==i) i hil).trans (by simp)
       rw[ae,hKn]
       simp only[Bool.false_eq_true,if_false]
       rw[n3 _ hKS]
       show jc st.next l st.boxes (st.next+i)=_
       rw[wb l st.next st.boxes i o1 z hl1 hz]
       cases hzz
       rfl
      ·rw[ab _ _ e]
       have:K (fun j=>S j||j==i) p=K S p:=by
        simp only[K]
        by_cases h1:st.next≤p
        ·have:(p - st.next==i)=false:=by simp;omega
         rw[this,Bool.or_false]
        ·simp[h1]
       rw[this]
     rw[e]
     exact hs
    ·rw[henv hd]
     have hext:Ext B w1 g1 (w1.alloc (.cells v.cells T)) {g1 with ι:=ap g1.ι (st.next+i) (some w1.heap.size)}:=by
      have h1:=Ext.below_ i3.rel (fu w1 (.cells v.cells T))
      refine h1.trans ⟨Below.refl _ _,fun _ _ h=>h,fun _ _ _=>rfl,fun _ _=>rfl,fun l' b' hl=>?_,fun _ _ h=>h,fun _ _ h=>.inl h,fun _ _ vs _ _ _ h=>⟨vs,h,rfl⟩⟩
      have:l'≠st.next+i:=by rintro rfl;rw[i5 i hil hSi]at hl;cases hl
      simpa[ab _ _ this]using hl
     exact(i4.mono hext).put (by rw[hdv];exact .ptr _ 0 _ (by simp[ae])) i2 hdn'
    ·simp only[Bool.or_eq_false_iff,beq_eq_false_iff_ne]at hSk
     show ap g1.ι (st.next+i) (some w1.heap.size) (st.next+k)=none
     rw[ab _ _ (by omega)]
     exact i5 k hk hSk.1
   ·have hna:∀z,o1.op≠.alloc z:=fun z e=>hz ⟨z,e⟩
    have hF:=(fact i o1 hl1 hna).move hread hstore
    have e1:(kf i).eff ((kf i).eff (sv i) (cw (st.ahead l) sv kf (fun _=>true) i)) (cw (st.ahead l) sv kf S l.length)=(kf i).eff (sv i) (cw (st.ahead l) sv kf S l.length):=Fl.eff_eff _ _ _ _
    rw[e1]at hF
    have hout:=out i (by omega) (K S) (fun p hp=>by
     simp only[K,Bool.and_eq_true,decide_eq_true_eq,Bool.not_eq_true']at hp
     refine⟨hp.1.1,hp.1.2,fun hmem=>?_⟩
     rw[hbef _ hmem]at hp
     exact absurd hp.2 (by simp))
    have hF':=hF.cut hout
    have hkept:=Fl.out_kept hout (sv i) (cw (st.ahead l) sv kf S l.length)
    refine hF'.exec hco i4 i3.rel (fun v w2 g2 hd hdn' hv hs=>hQ1 _ _ ?_)
    have eK:dW (K fun j=>S j||j==i) ((kf i).eff (sv i) (cw (st.ahead l) sv kf S l.length))=dW (K S) ((kf i).eff (sv i) (cw (st.ahead l) sv kf S l.length)):=by
     unfold dW
     congr 1
     funext p
     by_cases e:p=st.next+i
     ·subst e
      have hKS:K S (st.next+i)=true:=by rw[hKi S i (by omega),hSi];rfl
      have hk6:=hkept.2.2 _ hKS
      rw[if_pos hKS,hk6,n3 _ hKS]
      have hnone:(st.ahead l).boxes (st.next+i)=none:=by
       show jc st.next l st.boxes (st.next+i)=none
       rw[we l st.next st.boxes i o1 hl1 hna]
       cases hb:st.boxes (st.next+i)with
       |none=>rfl
       |some x=>
        obtain⟨b,hb1,_⟩:=hrel.box _ x hb
        rw[hrel.newι _ (by omega)]at hb1;cases hb1
      rw[hnone]
      split<;>rfl
     ·have:K (fun j=>S j||j==i) p=K S p:=by
       simp only[K]
       by_cases h1:st.next≤p
       ·have:(p - st.next==i)=false:=by simp;omega
        rw[this,Bool.or_false]
       ·simp[h1]
      rw[this]
    refine⟨by rw[Hw];exact i1,by rw[lV];exact i2,g2,?_,?_,fun k hk hSk=>?_⟩
    ·rw[hstn]
     rw[eK]
     exact i3.trans hrel hs
    ·rw[henv hd]
     exact(i4.mono hs.ext).put hv i2 hdn'
    ·simp only[Bool.or_eq_false_iff,beq_eq_false_iff_ne]at hSk
     rw[hs.eqι _ (by show st.next+k<(cw (st.ahead l) sv kf S l.length).next;omega)]
     exact i5 k hk hSk.1
 · -- all have come up
   intro S a1 w1 hI hall _
   obtain⟨i1,i2,g1,i3,i4,_⟩:=hI
   have e1:ec ρ dst dv S l.length=ρ':=by
    rw[h5]
    funext t
    exact gr ρ dst dv l.length (fun j hj _=>by rw[hall j (by omega)])
   have e2:cw (st.ahead l) sv kf S l.length=st':=by
    rw[h6]
    exact pO (st.ahead l) sv kf l.length (fun j hj=>.inr (by rw[hall j (by omega)]))
   have e3:dW (K S) st'=st':=by
    unfold dW
    congr 1
    funext p
    have:K S p=false:=by
     simp only[K]
     by_cases h:p - st.next<ops.size
     ·rw[hall _ h];simp
     ·have:¬(p<st.next+l.length∧st.next≤p):=by omega
      by_cases h1:p<st.next+l.length<;>by_cases h2:st.next≤p<;>simp_all
    rw[this];rfl
   rw[e1]at i4
   rw[e2,e3]at i3
   exact⟨rfl,i1,i2,g1,i4,i3⟩
 ·intro i o h
  simp[Array.getD]at h
 ·have hr0:∀n,(Array.replicate ops.size false).getD n false=false:=fun n=>by simp[Array.getD]
  have e0:∀n,ec ρ dst dv (fun j=>(Array.replicate ops.size false).getD j false) n=ρ:=by
   intro n
   induction n with
   |zero=>rfl
   |succ n ihn=>
    unfold ec
    rw[hr0 n,if_neg (by simp)]
    exact ihn
  have e1:∀n,cw (st.ahead l) sv kf (fun j=>(Array.replicate ops.size false).getD j false) n=st.ahead l:=by
   intro n
   induction n with
   |zero=>rfl
   |succ n ihn=>
    unfold cw
    rw[hr0 n,if_neg (by simp)]
    exact ihn
  refine⟨rfl,hn,g,?_,?_,fun k hk _=>hrel.newι _ (by omega)⟩
  ·rw[e1]
   have hs:=Step.below_ hrel (cP w)
   refine hs.trans hrel ?_
   have hh:=hs.rel
   have hbx:∀p,(dW (K fun j=>(Array.replicate ops.size false).getD j false) (st.ahead l)).boxes p=if st.next≤p∧p<st.next+l.length then none else st.boxes p:=fun p=>by
    simp only[dW,K,hr0,Bool.not_false,Bool.and_true,Bool.and_eq_true,decide_eq_true_eq]
    split
    ·rfl
    ·rename_i h
     exact mi l st.next st.boxes p (by omega)
   have hsome:∀p x,(dW (K fun j=>(Array.replicate ops.size false).getD j false) (st.ahead l)).boxes p=some x→st.boxes p=some x:=fun p x hx=>by
    rw[hbx]at hx
    split at hx
    ·cases hx
    ·exact hx
   refine⟨.refl _ _ _,⟨hh.base,hh.S,fun p x hx=>hh.box p x (hsome p x hx),fun p p' b x x' hx hx'=>hh.inj p p' b x x' (hsome _ _ hx) (hsome _ _ hx'),hh.tok,hh.uniq,hh.apart,fun p hp=>hh.newι p (by show st.next≤p;have:st.next+l.length≤p:=hp;omega),hh.newτ,hh.ltι,?_,hh.limτ⟩,fun _ _ _ _ _ _=>rfl,fun _ _ _ _ _=>rfl,fun _ _=>rfl,fun _ _=>rfl,rfl,rfl,?_,Nat.le_refl _,fun p hp=>?_,fun _ _=>rfl⟩
   ·show st.lim≤st.next+l.length;have:=hrel.limι;omega
   ·show st.next≤st.next+l.length;omega
   ·rw[hbx]
    have:=hrel.limι
    rw[if_neg (by omega)]
  ·rw[e0];exact he.mono (Ext.below_ hrel (cP w))
/-! ### Code -/
theorem lJ:∀(c:Code) (c':C) (l:Nat),findLabel c l=none→jP c c' l=none:=by
 intro c
 induction c with
 |seq a b iha ihb=>
  intro c' l h
  simp only[findLabel]at h
  split at h
  ·cases h
  ·rename_i ha
   cases c' with
   |seq a' b'=>simp only[jP,iha a' l ha,ihb b' l h]
   |_=>rfl
 |label l'=>
  intro c' l h
  simp only[findLabel]at h
  split at h
  ·cases h
  ·rename_i hl;simp[jP,hl]
 |_=>intro c' l h;cases c'<;>rfl
theorem yR {mu:List Nat} {nt:Nat}:∀(c:Code) (c':C) (l:Nat) (rest:Code),aV P mu nt c=some c'→findLabel c l=some rest→∃r',jP c c' l=some r'∧aV P mu nt rest=some r':=by
 intro c
 induction c with
 |seq a b iha ihb=>
  intro c' l rest hc hf
  simp only[aV]at hc
  split at hc<;>try contradiction
  rename_i x y hx hy
  cases hc
  simp only[findLabel]at hf
  split at hf
  ·rename_i ra ha
   cases hf
   obtain⟨r',h1,h2⟩:=iha x l ra hx ha
   exact⟨.seq r' y,by simp only[jP,h1],by simp only[aV,h2,hy]⟩
  ·rename_i ha
   obtain⟨r',h1,h2⟩:=ihb y l rest hy hf
   exact⟨r',by simp only[jP,lJ a x l ha,h1],h2⟩
 |label l'=>
  intro c' l rest hc hf
  simp only[findLabel]at hf
  split at hf<;>try contradiction
  rename_i hl
  cases hf
  exact⟨.skip,by simp[jP,hl],by simp[aV]⟩
 |_=>intro c' l rest hc hf;simp[findLabel]at hf
theorem yc (hm:P.follows .mixedOrders=true) {n:Nat} (ih:Sound P Γ n) {c':C} {x:X} (h:aW Γ (n+1) c' ρ st=some (x,ρ',st')) {mu:List Nat} {c:Code} {nt:Nat} (hc:aV P mu nt c=some c') (he:EnvR w g ρ a.tmps) (hn:nt≤a.tmps.size) (hrel:Rel B w g st)
  (hloop:∀{c0':C} {c0:Code},c'=.loop c0'→aV P mu nt c0=some c0'→Code.rounds P c0 (Post B w g st nt a x ρ' st') (n+1) a w):c.wp P (Post B w g st nt a x ρ' st') a w:=by
 cases c with
 |skip=>
  simp only[aV,Option.some.injEq]at hc
  subst hc
  simp only[aW,Option.some.injEq,Prod.mk.injEq]at h
  obtain⟨rfl,rfl,rfl⟩:=h
  exact wp_skip ⟨rfl,rfl,hn,g,he,.refl hrel⟩
 |region id ops draw=>
  simp only[aV]at hc
  split at hc<;>try contradiction
  rename_i l hl
  cases draw with
  |true=>
   simp only[if_true]at hc
   split at hc
   case isFalse=>cases hc;simp[aW]at h
   rename_i hcond
   simp only[Bool.and_eq_true]at hcond
   split at hc
   ·split at hc
    case isFalse=>cases hc;simp[aW]at h
    rename_i hal
    cases hc
    simp only[aW]at h
    split at h<;>try contradiction
    rename_i ρ1 st1 fl hrun
    split at h<;>try contradiction
    rename_i hfl
    simp only[Bool.and_eq_true]at hfl
    simp only[Option.some.injEq,Prod.mk.injEq]at h
    obtain⟨rfl,rfl,rfl⟩:=h
    exact o0 hm (ih.draw hrun) hl hcond.1 hcond.2 hal hfl.1 hfl.2 he hn hrel
   cases hc
   simp only[aW]at h
   split at h<;>try contradiction
   rename_i ρ1 st1 fl hrun
   split at h<;>try contradiction
   rename_i hfl
   simp only[Option.some.injEq,Prod.mk.injEq]at h
   obtain⟨rfl,rfl,rfl⟩:=h
   exact qB hm (ih.draw hrun) hl hcond.1 hcond.2 hfl he hn hrel
  |false=>
   simp only[Bool.false_eq_true,if_false,Option.some.injEq]at hc
   subst hc
   simp only[aW]at h
   split at h<;>try contradiction
   rename_i ρ1 st1 hrun
   simp only[Option.some.injEq,Prod.mk.injEq]at h
   obtain⟨rfl,rfl,rfl⟩:=h
   refine wp_region (ih.ops hrun hl ?_ he hn hrel (fun a' w' hp=>hp))
   apply List.ext_getElem?
   intro j
   simp only[List.getElem?_map]
   by_cases hj:j<ops.size
   ·simp[hj]
   ·simp[Array.getElem?_eq_none (Nat.le_of_not_lt hj)]
    omega
 |seq c1 c2=>
  simp only[aV]at hc
  split at hc<;>try contradiction
  rename_i x1 x2 h1 h2
  cases hc
  simp only[aW]at h
  refine wp_seq ?_
  split at h
  ·rename_i ρ1 st1 hrun
   refine wp_mono (ih.code hrun h1 he hn hrel) (fun e a1 w1 hp=>?_)
   obtain⟨k1,k2,k3,g1,k4,k5⟩:=hp
   subst k1
   exact wp_mono (ih.code h h2 k4 k3 k5.rel) (fun e a' w' hp=>hp.from hrel k5 k2)
  ·rename_i hx
   refine wp_mono (ih.code h h1 he hn hrel) (fun e a1 w1 hp=>?_)
   have:x≠.normal:=fun e=>by subst e;exact hx _ _ h
   obtain⟨k1,k2⟩:=hp
   subst k1
   cases x with
   |normal=>exact absurd rfl this
   |exit id=>exact⟨rfl,k2⟩
   |ret=>exact⟨rfl,k2⟩
   |goto l=>exact⟨rfl,k2⟩
 |cond c0 c1 c2=>
  simp only[aV]at hc
  split at hc
  case h_2=>cases hc;simp[aW]at h
  rename_i x0 x1 x2 h0 h1 h2
  cases hc
  simp only[aW]at h
  split at h<;>try contradiction
  rename_i t ht
  have hv:=co he h0
  rw[ht]at hv
  refine wp_cond hv.bool_inv ?_
  cases t with
  |true=>exact ih.code h h1 he hn hrel
  |false=>exact ih.code h h2 he hn hrel
 |block id c0=>
  simp only[aV,Option.map_eq_some_iff]at hc
  obtain⟨x0,h0,rfl⟩:=hc
  simp only[aW]at h
  refine wp_block ?_
  split at h
  ·rename_i j ρ1 st1 hrun
   simp only[Option.some.injEq,Prod.mk.injEq]at h
   obtain⟨hx,rfl,rfl⟩:=h
   refine wp_mono (ih.code hrun h0 he hn hrel) (fun e a1 w1 hp=>?_)
   obtain⟨k1,k2⟩:=hp
   subst k1
   simp only[X.toExit,Exit.inBlock]
   split at hx
   ·rename_i hj;rw[if_pos hj];subst hx;exact⟨rfl,k2⟩
   ·rename_i hj;rw[if_neg hj];subst hx;exact⟨rfl,k2⟩
  ·rename_i hx
   refine wp_mono (ih.code h h0 he hn hrel) (fun e a1 w1 hp=>?_)
   obtain⟨k1,k2⟩:=hp
   subst k1
   cases x with
   |normal=>exact⟨rfl,k2⟩
   |exit j=>exact absurd h (hx _ _ _)
   |ret=>exact⟨rfl,k2⟩
   |goto l=>exact⟨rfl,k2⟩
 |loop c0=>
  simp only[aV,Option.map_eq_some_iff]at hc
  obtain⟨x0,h0,rfl⟩:=hc
  exact wp_loop_rounds _ (hloop rfl h0)
 |exit id=>
  simp only[aV,Option.some.injEq]at hc
  subst hc
  simp only[aW,Option.some.injEq,Prod.mk.injEq]at h
  obtain⟨rfl,rfl,rfl⟩:=h
  exact wp_exit ⟨rfl,rfl,hn,g,he,.refl hrel⟩
 |ret=>
  simp only[aV,Option.some.injEq]at hc
  subst hc
  simp only[aW,Option.some.injEq,Prod.mk.injEq]at h
  obtain⟨rfl,rfl,rfl⟩:=h
  exact wp_ret ⟨rfl,rfl,hn,g,he,.refl hrel⟩
 |label l=>
  simp only[aV,Option.some.injEq]at hc
  subst hc
  simp only[aW,Option.some.injEq,Prod.mk.injEq]at h
  obtain⟨rfl,rfl,rfl⟩:=h
  exact wp_label ⟨rfl,rfl,hn,g,he,.refl hrel⟩
 |goto l=>
  simp only[aV,Option.some.injEq]at hc
  subst hc
  simp only[aW,Option.some.injEq,Prod.mk.injEq]at h
  obtain⟨rfl,rfl,rfl⟩:=h
  exact wp_goto ⟨rfl,rfl,hn,g,he,.refl hrel⟩
 |scope c0=>
  unfold aV at hc
  split at hc
  case h_2=>cases hc;simp[aW]at h
  rename_i x1 l hcw hlab
  split at hc
  case h_2=>cases hc;simp[aW]at h
  rename_i xr hrest
  cases hc
  obtain⟨rest,hfl⟩:∃rest,findLabel c0 l=some rest:=by
   cases hf:findLabel c0 l with
   |none=>rw[lJ c0 x1 l hf]at hrest;cases hrest
   |some rest=>exact⟨rest,rfl⟩
  have hcr:aV P mu nt rest=some xr:=by
   obtain⟨r',h1,h2⟩:=yR c0 x1 l rest hcw hfl
   rw[hrest]at h1
   cases h1
   exact h2
  simp only[aW]at h
  split at h
  ·rename_i l' ρ1 st1 hrun
   split at h<;>try contradiction
   rename_i hll
   subst hll
   refine lj l' n hfl (wp_mono (ih.code hrun hcw he hn hrel) (fun e a1 w1 hp=>?_))
   obtain⟨k1,k2,k3,g1,k4,k5⟩:=hp
   subst k1
   exact⟨rfl,HA (fun e a' w' hp=>hp.from hrel k5 k2) n a1 w1 (ih.again h hcr k4 k3 k5.rel)⟩
  ·rename_i hx
   refine lj l n hfl (wp_mono (ih.code h hcw he hn hrel) (fun e a1 w1 hp=>?_))
   obtain⟨k1,k2⟩:=hp
   subst k1
   cases x with
   |normal=>exact⟨rfl,k2⟩
   |exit id=>exact⟨rfl,k2⟩
   |ret=>exact⟨rfl,k2⟩
   |goto l=>exact absurd h (hx _ _ _)
 |_=>simp only[aV,Option.some.injEq]at hc;subst hc;simp[aW]at h
theorem qj {n:Nat} (ih:Sound P Γ n) {c':C} {x:X} (h:aW Γ (n+1) (.loop c') ρ st=some (x,ρ',st')) {mu:List Nat} {c:Code} {nt:Nat} (hc:aV P mu nt c=some c') (he:EnvR w g ρ a.tmps) (hn:nt≤a.tmps.size) (hrel:Rel B w g st):
  Code.rounds P c (Post B w g st nt a x ρ' st') (n+1) a w:=by
 rw[rounds_succ]
 simp only[aW]at h
 split at h
 ·rename_i ρ1 st1 hrun
  refine wp_mono (ih.code hrun hc he hn hrel) (fun e a1 w1 hp=>?_)
  obtain⟨k1,k2,k3,g1,k4,k5⟩:=hp
  subst k1
  exact o6 (fun e a' w' hp=>hp.from hrel k5 k2) n a1 w1 (ih.loop h hc k4 k3 k5.rel)
 ·rename_i hx
  refine wp_mono (ih.code h hc he hn hrel) (fun e a1 w1 hp=>?_)
  have:x≠.normal:=fun e=>by subst e;exact hx _ _ h
  obtain⟨k1,k2⟩:=hp
  subst k1
  cases x with
  |normal=>exact absurd rfl this
  |exit id=>exact⟨rfl,k2⟩
  |ret=>exact⟨rfl,k2⟩
  |goto l=>exact⟨rfl,k2⟩
theorem vS {n:Nat} (ih:Sound P Γ n) {l:Nat} {r':C} {x:X} (h:aW Γ (n+1) (.again l r') ρ st=some (x,ρ',st')) {mu:List Nat} {r:Code} {nt:Nat} (hc:aV P mu nt r=some r') (he:EnvR w g ρ a.tmps) (hn:nt≤a.tmps.size) (hrel:Rel B w g st):
  kH P r l (Post B w g st nt a x ρ' st') (n+1) a w:=by
 simp only[aW]at h
 show r.wp P _ a w
 split at h
 ·rename_i l' ρ1 st1 hrun
  split at h<;>try contradiction
  rename_i hl
  subst hl
  refine wp_mono (ih.code hrun hc he hn hrel) (fun e a1 w1 hp=>?_)
  obtain⟨k1,k2,k3,g1,k4,k5⟩:=hp
  subst k1
  exact⟨rfl,HA (fun e a' w' hp=>hp.from hrel k5 k2) n a1 w1 (ih.again h hc k4 k3 k5.rel)⟩
 ·rename_i hx
  refine wp_mono (ih.code h hc he hn hrel) (fun e a1 w1 hp=>?_)
  obtain⟨k1,k2⟩:=hp
  subst k1
  cases x with
  |normal=>exact⟨rfl,k2⟩
  |exit id=>exact⟨rfl,k2⟩
  |ret=>exact⟨rfl,k2⟩
  |goto l=>exact absurd h (hx _ _ _)
theorem wM {n:Nat} {l:List Op1} {fl:List Fl} (h:bp Γ n l ρ st=some (ρ',st',fl)) (hl:l=[]):Recs P l ρ st ρ' st' fl:=by
 subst hl
 have h':ρ=ρ'∧st=st'∧[]=fl:=by cases n<;>simpa[bp]using h
 obtain⟨rfl,rfl,rfl⟩:=h'
 exact⟨fun _=>.undef,fun _=>st,fun _=>.n,rfl,fun j hj=>by simp at hj,fun i o1 h=>by simp at h,rfl,rfl⟩
theorem o8 (hk:Known P Γ) (hm:P.follows .mixedOrders=true):∀n,Sound P Γ n
 |0=>by
  refine⟨fun h=>by simp[aM]at h,fun h=>by simp[bs]at h,fun h=>by simp[aQ]at h,?_,?_,fun h=>by simp[aW]at h,fun h=>by simp[aW]at h,fun h=>by simp[aW]at h⟩
  ·intro l ρ st ρ' st' h mu nt ops os idx hc hi B w g a he hn hrel Q hQ
   cases l with
   |cons o1 l=>simp[bt]at h
   |nil=>
    obtain⟨rfl,rfl⟩:=HF h rfl
    have:=jA hc
    subst this
    have:idx=[]:=by simpa using hi
    subst this
    exact hQ _ _ ⟨rfl,rfl,hn,g,he,.refl hrel⟩
  ·intro l ρ st ρ' st' fl h
   cases l with
   |cons o1 l=>simp[bp]at h
   |nil=>exact wM h rfl
 |n+1=>by
  have ih:=o8 hk hm n
  refine⟨fun h hds=>CH hk ih h hds,fun h=>AI hk ih h,fun h=>Ch hk ih h,?_,?_,fun h _ _ _ hc _ _ _ _ he hn hrel=>yc hm ih h hc he hn hrel (fun e hc0=>by subst e;exact qj ih h hc0 he hn hrel),fun h _ _ _ hc _ _ _ _ he hn hrel=>qj ih h hc he hn hrel,fun h _ _ _ hc _ _ _ _ he hn hrel=>vS ih h hc he hn hrel⟩
  ·intro l ρ st ρ' st' h mu nt ops os idx hc hi B w g a he hn hrel Q hQ
   cases l with
   |cons o1 l=>exact zA ih h hc hi he hn hrel hQ
   |nil=>
    obtain⟨rfl,rfl⟩:=HF h rfl
    have:=jA hc
    subst this
    have:idx=[]:=by simpa using hi
    subst this
    exact hQ _ _ ⟨rfl,rfl,hn,g,he,.refl hrel⟩
  ·intro l ρ st ρ' st' fl h
   cases l with
   |cons o1 l=>exact xX ih h
   |nil=>exact wM h rfl
end
end Go.Ev
