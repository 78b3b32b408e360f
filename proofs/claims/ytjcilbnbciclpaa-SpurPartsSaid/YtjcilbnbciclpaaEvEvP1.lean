/-
  slices.Clone, as something known: it asks whether the slice is nil, which the evaluator's data doesn't say of an empty one.
-/
import Derived.Test.YtjcilbnbciclpaaEvEvX5
set_option linter.unusedVariables false
set_option linter.unusedSimpArgs false
set_option linter.unnecessarySimpa false
namespace Go.Ev
open Go.RowKit
variable {P:Program} {Γ:Nat→Option FD} {B:Nat} {w:World} {g:Ghost} {st:Store}
theorem nf (hk:Known P Γ) (hm:P.follows .mixedOrders=true) {f:Nat} {cf:CF} {ds:List D} {r:D} (hf:Γ f=some (.code cf)) (h:EvP Γ f ds r) {vs:Array Value} (hrel:Rel B w g st) (hv':VRs w ⟨g.S,fun _=>none,fun _=>none⟩ ds vs.toList):Enters P f∧Calls P f vs w (cU B w g st r):=by
 obtain⟨N,hN⟩:=h.get
 cases N with
 |zero=>simp[az]at hN
 |succ n=>
 have ih:=lM (P:=P) hk hm n
 simp only[az,hf]at hN
 have hko:aC P f cf.ro cf.mv=some cf:=hk f _ hf
 obtain⟨fn,c,h1,h2,h3,h4,h5⟩:=cg hko
 refine⟨h3,?_⟩
 split at hN<;>try contradiction
 have hst0:Rel w.heap.size w ⟨g.S,fun _=>none,fun _=>none⟩ Store.empty:=⟨Nat.le_refl _,hrel.S,fun l x hx=>by simp[Store.empty]at hx,fun l l' b x x' hx=>by simp[Store.empty]at hx,fun t r ht=>by simp[Store.empty]at ht,fun t t' r r' ht=>by simp[Store.empty]at ht,fun t r l b x ht=>by simp[Store.empty]at ht,fun l hl=>rfl,fun t ht=>rfl,fun l b hl=>by simp at hl,Nat.le_refl _,Nat.le_refl _⟩
 have fin:∀(x:X) (ρ1:Nat→D) (st1:Store),x=.normal∨x=.ret→aI Γ n cf.body (enter ds) Store.empty=some (x,ρ1,st1)→
   ((aB ρ1 st1 cf.res).bind (dy st1))=some r→Calls P f vs w (cU B w g st r):=by
  intro x ρ1 st1 hx hrun hres
  refine calls_of_wp h1 h2 (wp_mono (ih.code hrun h4 (EnvR.enter_ hv' _) (by simp;omega) hst0) (fun e a' w' he=>?_))
  obtain⟨k1,k2,k3,g1,k4,k5⟩:=he
  obtain⟨r0,hr0,hfr⟩:=Option.bind_eq_some_iff.1 hres
  obtain⟨v,q1,q2⟩:=cW h5 hr0 k4 k5.rel
  have hR:=wP (g0:=⟨g.S,fun _=>none,fun _=>none⟩) hrel rfl k5 q2 hfr
  rcases hx with rfl|rfl<;>subst k1<;>exact⟨k2,v,q1,hR⟩
 split at hN<;>try contradiction
 ·rename_i ρ1 st1 hrun
  exact fin _ ρ1 st1 (.inl rfl) hrun hN
 ·rename_i ρ1 st1 hrun
  exact fin _ ρ1 st1 (.inr rfl) hrun hN
def nw (sz bytes:Nat):CF:=⟨8,[.tmp 2],true,[7],.seq (.ops false [⟨some 2,none,false,.mov (.lit (.slice .isnil 0 []))⟩])
 (.seq (.seq (.ops false [⟨some 3,none,false,.mov (.tmp 0)⟩,⟨some 4,none,false,.eqlS false (.tmp 3)⟩]) (.cond (.tmp 4) (.seq (.ops false [⟨some 2,none,false,.mov (.lit (.slice .isnil 0 []))⟩]) .ret) .skip))
   (.seq (.ops false [⟨some 5,none,false,.bslice sz []⟩,⟨some 6,none,false,.mov (.tmp 0)⟩,⟨some 7,none,true,.append sz bytes (.tmp 5) (.tmp 6)⟩,⟨some 2,none,false,.mov (.tmp 7)⟩]) .ret))⟩
def iV (sz bytes:Nat):List D→Option D
 |[.slice _ s xs]=>if xs.isEmpty then some (.slice .no sz [])else if s=sz∧xs.length*bytes≤140737488355328∧xs.all (fun d=>d.cells.length==sz&&d.cells.all D.plain&&(match d.cells with|[c]=>(match d with| .agg _=>false|_=>true)|_=>(match d with| .agg _=>true|_=>false)))=true then some (.slice .row sz xs)else none
 |_=>none
theorem zm {d:D} (h:(match d.cells with|[c]=>(match d with| .agg _=>false|_=>true)|_=>(match d with| .agg _=>true|_=>false))=true):qC d.cells=d:=by
 cases d with
 |agg cs=>
  simp only[D.cells]at h ⊢
  cases cs with
  |nil=>rfl
  |cons c cs=>cases cs with
   |nil=>simp at h
   |cons=>rfl
 |_=>rfl
theorem vj {f sz bytes:Nat} (hf:Γ f=some (.code (nw sz bytes))) (h0:0<sz) {t:Tok} {xs:List D} (hx:xs≠[]) (ht:t≠.isnil∧t≠.nonnil) (hb:xs.length*bytes≤140737488355328) (hxs:∀d∈xs,gL sz d∧qC d.cells=d):EvP Γ f [.slice t sz xs] (.slice .row sz xs):=by
 refine aA hf rfl ?_
 refine WC_seq (WC_opsS (bL (v:=.slice _ _ _) rfl rfl rfl (WS_nil (WC_seq (WC_seq (WC_opsS (bL (v:=.slice t sz xs) rfl rfl rfl ?_)))))))
 have e:∀ρ:Nat→D,ρ 3=.slice t sz xs→O.run (.eqlS false (.tmp 3)) ρ Store.empty=some (.bool false,Store.empty):=fun ρ h=>by
  simp only[O.run,A.ev,h]
  cases xs with
  |nil=>exact absurd rfl hx
  |cons x xs=>
   cases t<;>first|exact absurd rfl ht.1|exact absurd rfl ht.2|simp[h0]
 refine jK (d:=.bool false) rfl rfl (e _ rfl) rfl (WS_nil (af rfl (WC_skip (WC_seq (WC_opsS ?_)))))
 refine bh (ys:=[]) rfl rfl rfl (by simp) rfl ?_
 refine bL (v:=.slice t sz xs) rfl rfl rfl ?_
 refine kH (t0:=.exact) (s0:=sz) (xs:=[]) rfl rfl (.inl rfl) (.inl rfl) rfl rfl (.inl rfl) (List.length_pos_iff.mpr hx) (by simp) (fun d hd=>(hxs d hd).1) (by simpa using hb) (Nat.zero_le _) ?_
 intro st' _ _ _ _ hR _ _
 refine bL (v:=.rs _ _ _ _ _) rfl rfl rfl (WS_nil (al ?_))
 exact mq (.inr rfl) rfl (by simp) h0 hR (fun d hd=>⟨(hxs d hd).1.1,(hxs d hd).2⟩)
theorem sR {f sz bytes:Nat} (hf:Γ f=some (.code (nw sz bytes))):EvP Γ f [.slice .nonnil sz []] (.slice .exact sz []):=by
 refine aA hf rfl ?_
 refine WC_seq (WC_opsS (bL (v:=.slice _ _ _) rfl rfl rfl (WS_nil (WC_seq (WC_seq (WC_opsS (bL (v:=.slice _ _ _) rfl rfl rfl ?_)))))))
 refine jK (d:=.bool false) rfl rfl rfl rfl (WS_nil (af rfl (WC_skip (WC_seq (WC_opsS ?_)))))
 refine bh (ys:=[]) rfl rfl rfl (by simp) rfl ?_
 refine bL (v:=.slice _ _ _) rfl rfl rfl ?_
 refine WS_op (d:=.slice .exact sz []) (st1:=Store.empty) rfl rfl (by simp[O.runM,A.ev,ap,e9,iH]) ?_
 refine bL (v:=.slice _ _ _) rfl rfl rfl (WS_nil (al ?_))
 exact⟨.inr rfl,rfl⟩
theorem tu (hm:P.follows .mixedOrders=true) {f sz bytes:Nat} (hcf:aC P f true [7]=some (nw sz bytes)) (h0:0<sz) (hnil:∀(w:World) (cap:Nat),Calls P f #[.slice none 0 cap] w (fun e w'=>e=.returned (.slice none 0 0)∧w'=w)):PrimOK P f (iV sz bytes):=by
 let Γ0:Nat→Option FD:=fun k=>if k=f then some (.code (nw sz bytes))else none
 have hΓ:Γ0 f=some (.code (nw sz bytes)):=by simp[Γ0]
 have hk:Known P Γ0:=fun k fd h=>by
  simp only[Γ0]at h
  split at h
  ·rename_i hkf
   cases h
   subst hkf
   exact hcf
  ·cases h
 refine⟨(cg hcf).choose_spec.choose_spec.2.2.1,?_⟩
 intro B w g st ds vs r hrel hv hF
 unfold iV at hF
 split at hF<;>try contradiction
 rename_i t s xs
 obtain⟨vl⟩:=vs
 have hlen:vl.length=1:=hv.1.symm
 obtain⟨v,rfl⟩:=List.length_eq_one_iff.mp hlen
 have hvv:=hv.2 0 _ _ rfl rfl
 split at hF
 ·rename_i he
  cases hF
  have hx:xs=[]:=List.isEmpty_iff.mp he
  subst hx
  obtain⟨A,cap,vals,rfl,hc,htk,hs,hA,hvs⟩:=hvv.slice_inv
  cases A with
  |none=>
   refine(hnil w cap).mono fun e w' h=>?_
   obtain⟨rfl,rfl⟩:=h
   refine⟨_,rfl,Same.refl _ _ _,fun mv=>⟨g,?_,?_⟩⟩
   ·exact .slice .no sz [] none 0 0 (fun _ _=>default) rfl (Nat.le_refl _) trivial (by simp) (by simp) (by simp)
   ·exact Step.refl hrel
  |some ad=>
   have hv':VRs w ⟨g.S,fun _=>none,fun _=>none⟩ [D.slice .nonnil sz []] (#[Value.slice (some ad) ([]:List D).length cap]:Array Value).toList:=⟨rfl,fun j d v h1 h2=>by
    cases j with
    |zero=>
     simp at h1 h2
     subst h1 h2
     exact .slice .nonnil sz [] (some ad) 0 cap (fun _ _=>default) rfl (Nat.zero_le _) (by simp[TokOK]) (by simp) (by simp) (by simp)
    |succ j=>simp at h1⟩
   refine(nf hk hm hΓ (sR hΓ) hrel hv').2.mono fun e w' h=>?_
   obtain⟨v,rfl,hsame,hmv⟩:=h
   refine⟨v,rfl,hsame,fun mv=>?_⟩
   obtain⟨g',h1,h2⟩:=hmv mv
   exact⟨g',h1.slice_to (fun _ _ h=>h) (fun _ _ _=>trivial),h2⟩
 ·rename_i he
  split at hF<;>try contradiction
  rename_i hcond
  cases hF
  obtain⟨rfl,hb,hall⟩:=hcond
  have hxs:∀d∈xs,gL s d∧qC d.cells=d:=fun d hd=>by
   have:=List.all_eq_true.mp hall d hd
   simp only[Bool.and_eq_true,beq_iff_eq]at this
   exact⟨⟨this.1.1,this.1.2⟩,zm this.2⟩
  have hx:xs≠[]:=fun h=>he (by simp[h])
  have hv':VRs w ⟨g.S,fun _=>none,fun _=>none⟩ [D.slice .no s xs] (#[v]:Array Value).toList:=⟨rfl,fun j d v h1 h2=>by
   cases j with
   |zero=>
    simp at h1 h2
    subst h1 h2
    exact hvv.slice_to (fun _ _ h=>h) (fun _ _ _=>trivial)
   |succ j=>simp at h1⟩
  exact(nf hk hm hΓ (vj hΓ h0 hx (by simp) hb hxs) hrel hv').2
end Go.Ev
