/-
  What an operation looks at.
-/
import Derived.Test.YtjcilbnbciclpaaEvEvT
set_option linter.unusedVariables false
set_option linter.unusedSimpArgs false
set_option linter.unnecessarySimpa false
namespace Go.Ev
open Go.RowKit
section
variable {ρ ρ':Nat→D} {st st':Store} {d:D} {x:O}
theorem bo {y:A} (h:∀t∈y.reads,ρ t=ρ' t):y.ev ρ=y.ev ρ':=by
 cases y with
 |tmp t=>exact h t (by simp[A.reads])
 |lit x=>rfl
theorem ja {y:Option A} (h:∀t∈A.readsO y,ρ t=ρ' t):y.map (·.ev ρ)=y.map (·.ev ρ'):=by
 cases y with
 |none=>rfl
 |some y=>simp only[Option.map_some];rw[bo h]
theorem iZ {ys:List A} (h:∀t∈ys.flatMap A.reads,ρ t=ρ' t):ys.map (·.ev ρ)=ys.map (·.ev ρ'):=
 List.map_congr_left fun y hy=>bo fun t ht=>h t (List.mem_flatMap.2 ⟨y,hy,ht⟩)
theorem vO (h:∀t∈x.reads,ρ t=ρ' t):x.run ρ st=x.run ρ' st:=by
 cases x<;>simp only[O.reads,List.mem_append,or_imp,forall_and]at h<;>simp only[O.run]
 case pick=>rw[bo h.1.1,bo h.1.2,bo h.2]
 case slice=>rw[bo h.1.1.1,ja h.1.1.2,ja h.1.2,ja h.2]
 case sliceA=>rw[bo h.1.1,ja h.1.2,ja h.2]
 case mapset=>rw[bo h.1.1,bo h.1.2,bo h.2]
 case build zero fills=>
  have:(fills.map fun f=>(f.1,f.2.1,f.2.2.ev ρ))=fills.map fun f=>(f.1,f.2.1,f.2.2.ev ρ'):=List.map_congr_left fun f hf=>by
   rw[bo (ρ:=ρ) (ρ':=ρ') fun t ht=>h t (List.mem_flatMap.2 ⟨f,hf,ht⟩)]
  rw[this]
 case bslice sz xs=>
  have hm:=iZ h
  have e1:(xs.all fun x=>(x.ev ρ).strip.cells.length==sz&&(x.ev ρ).strip.cells.all D.plain)=(xs.map (·.ev ρ)).all fun x=>x.strip.cells.length==sz&&x.strip.cells.all D.plain:=by rw[List.all_map];rfl
  have e2:(xs.all fun x=>(x.ev ρ').strip.cells.length==sz&&(x.ev ρ').strip.cells.all D.plain)=(xs.map (·.ev ρ')).all fun x=>x.strip.cells.length==sz&&x.strip.cells.all D.plain:=by rw[List.all_map];rfl
  have e3:(xs.map fun x=>(x.ev ρ).strip)=(xs.map (·.ev ρ)).map D.strip:=by simp
  have e4:(xs.map fun x=>(x.ev ρ').strip)=(xs.map (·.ev ρ')).map D.strip:=by simp
  rw[e1,e2,e3,e4,hm]
 case min xs=>
  cases xs with
  |nil=>rfl
  |cons y r=>
   simp only[List.flatMap_cons,List.mem_append,or_imp,forall_and]at h
   simp only[bo h.1,iZ h.2]
 case max xs=>
  cases xs with
  |nil=>rfl
  |cons y r=>
   simp only[List.flatMap_cons,List.mem_append,or_imp,forall_and]at h
   simp only[bo h.1,iZ h.2]
 case mkfunc f xs=>rw[iZ h]
 all_goals first
  |rfl
  |rw[bo h]
  |rw[bo h.1,bo h.2]
theorem ss {mv:Bool} (h:∀t∈x.reads,ρ t=ρ' t):x.runM mv ρ st=x.runM mv ρ' st:=by
 unfold O.runM
 split
 ·rename_i sz b y z
  simp only[O.reads,List.mem_append,or_imp,forall_and]at h
  rw[bo h.1,bo h.2]
 ·exact vO h
theorem vc {mv:Bool} (h:∀t∈x.reads,ρ t=ρ' t):x.acc mv ρ=x.acc mv ρ':=by
 cases x<;>simp only[O.reads,List.mem_append,or_imp,forall_and]at h<;>simp only[O.acc]
 case sliceA=>rw[bo h.1.1]
 all_goals first
  |rfl
  |rw[bo h]
  |rw[bo h.1,bo h.2]
  |rw[bo h.1]
theorem qs {sz b:Nat} {u v:D} {t1 t2:Tok} {s1 s2:Nat} {xs ys:List D} (hu:u=.slice t1 s1 xs) (hv:v=.slice t2 s2 ys) (hr:dt sz b u v st=some (d,st')):st'=Fl.eff .t st' st∧∀st2,Fl.Agree .t st st2→dt sz b u v st2=some (d,Fl.eff .t st' st2):=by
 subst hu hv
 simp only[dt]at hr ⊢
 split at hr
 ·rename_i hc
  simp only[hc,if_true]
  split at hr
  ·rename_i k
   split at hr
   ·rename_i hk
    simp only[Option.some.injEq,Prod.mk.injEq]at hr
    obtain⟨rfl,rfl⟩:=hr
    refine⟨rfl,fun st2 ha=>?_⟩
    obtain⟨a1,a2,a3⟩:=ha
    simp only[a1,a2,a3,hk,if_true,Fl.eff]
   ·cases hr
  ·simp only[Option.some.injEq,Prod.mk.injEq]at hr
   obtain⟨rfl,rfl⟩:=hr
   refine⟨rfl,fun st2 ha=>?_⟩
   obtain⟨a1,a2,a3⟩:=ha
   simp only[a1,a2]
   rfl
  ·simp only[Option.some.injEq,Prod.mk.injEq]at hr
   obtain⟨rfl,rfl⟩:=hr
   refine⟨rfl,fun st2 ha=>?_⟩
   obtain⟨a1,a2,a3⟩:=ha
   simp only[a1,a2]
   rfl
  ·cases hr
 ·cases hr
theorem jR {st2:Store} {p:Nat} (h1:st2.boxes p=st.boxes p) (h2:st2.lim=st.lim):st2.cellsAt p=st.cellsAt p:=by unfold Store.cellsAt;rw[h1,h2]
theorem tO {mv:Bool} (hr:x.runM mv ρ st=some (d,st')):st'=(x.acc mv ρ).eff st' st∧∀st2,(x.acc mv ρ).Agree st st2→x.runM mv ρ st2=some (d,(x.acc mv ρ).eff st' st2):=by
 have ff:x.acc mv ρ=.f→st'=(x.acc mv ρ).eff st' st∧∀st2,(x.acc mv ρ).Agree st st2→x.runM mv ρ st2=some (d,(x.acc mv ρ).eff st' st2):=fun e=>by
  rw[e]
  refine⟨rfl,fun st2 ha=>?_⟩
  have ha:st2=st:=ha
  subst ha
  exact hr
 have rd:∀p,x.acc mv ρ=.r p→(∀st2,st2.boxes p=st.boxes p→st2.lim=st.lim→x.runM mv ρ st2=some (d,st2))→st'=(x.acc mv ρ).eff st' st∧∀st2,(x.acc mv ρ).Agree st st2→x.runM mv ρ st2=some (d,(x.acc mv ρ).eff st' st2):=fun p e h=>by
  rw[e]
  have:=h st rfl rfl
  rw[hr]at this
  simp only[Option.some.injEq,Prod.mk.injEq]at this
  exact⟨this.2,fun st2 ha=>h st2 ha.1 ha.2⟩
 have nn:x.acc mv ρ=.n→(st'=st∧∀st2,x.runM mv ρ st2=some (d,st2))→st'=(x.acc mv ρ).eff st' st∧∀st2,(x.acc mv ρ).Agree st st2→x.runM mv ρ st2=some (d,(x.acc mv ρ).eff st' st2):=fun e h=>by
  rw[e]
  exact⟨h.1,fun st2 _=>h.2 st2⟩
 have rM:(∀sz b u v,x≠.append sz b u v)→∀st,x.runM mv ρ st=x.run ρ st:=fun h st=>by
  unfold O.runM
  split
  ·exact absurd rfl (h _ _ _ _)
  ·rfl
 cases x
 case load ag sz y=>
  rw[rM (fun _ _ _ _ e=>by cases e)]at hr
  cases hy:y.ev ρ with
  |ptr p off=>
   refine rd p (by simp only[O.acc,hy]) fun st2 h1 h2=>?_
   rw[rM (fun _ _ _ _ e=>by cases e)]
   simp only[O.run,hy]at hr ⊢
   rw[jR h1 h2]
   obtain⟨c,h1,h2⟩:=Option.bind_eq_some_iff.1 hr
   obtain⟨c',h3,h4⟩:=Option.map_eq_some_iff.1 h2
   cases h4
   rw[h1,Option.bind_some,h3]
   rfl
  |eptr _ _ _ _=>
   refine nn (by simp only[O.acc,hy]) ?_
   simp only[O.run,hy]at hr
   obtain⟨c,h1,h2⟩:=Option.bind_eq_some_iff.1 hr
   obtain⟨c',h3,h4⟩:=Option.map_eq_some_iff.1 h2
   cases h4
   refine⟨rfl,fun st2=>?_⟩
   rw[rM (fun _ _ _ _ e=>by cases e)]
   simp only[O.run,hy,h1,Option.bind_some,h3]
   rfl
  |_=>simp[O.run,hy]at hr
 case lenM y=>
  rw[rM (fun _ _ _ _ e=>by cases e)]at hr
  cases hy:y.ev ρ with
  |map p=>
   refine rd p (by simp only[O.acc,hy]) fun st2 h1 h2=>?_
   rw[rM (fun _ _ _ _ e=>by cases e)]
   simp only[O.run,hy,h1]at hr ⊢
   split at hr
   ·simp only[Option.some.injEq,Prod.mk.injEq]at hr;rw[hr.1]
   ·cases hr
  |nilmap=>
   refine nn (by simp only[O.acc,hy]) ?_
   simp only[O.run,hy,Option.some.injEq,Prod.mk.injEq]at hr
   obtain⟨rfl,rfl⟩:=hr
   refine⟨rfl,fun st2=>?_⟩
   rw[rM (fun _ _ _ _ e=>by cases e)]
   simp only[O.run,hy]
  |_=>simp[O.run,hy]at hr
 case lookup z ok y k=>
  rw[rM (fun _ _ _ _ e=>by cases e)]at hr
  cases hy:y.ev ρ with
  |map p=>
   refine rd p (by simp only[O.acc,hy]) fun st2 h1 h2=>?_
   rw[rM (fun _ _ _ _ e=>by cases e)]
   simp only[O.run,hy,h1]at hr ⊢
   cases hk:k.ev ρ with
   |int kk i=>
    rw[hk]at hr
    cases kk with
    |i64=>
     simp only at hr ⊢
     split at hr
     ·split at hr<;>(simp only[Option.some.injEq,Prod.mk.injEq]at hr;simp_all)
     ·cases hr
    |_=>simp at hr
   |_=>rw[hk]at hr;simp at hr
  |nilmap=>
   refine nn (by simp only[O.acc,hy]) ?_
   cases hk:k.ev ρ with
   |int kk i=>
    cases kk with
    |i64=>
     simp only[O.run,hy,hk,Option.some.injEq,Prod.mk.injEq]at hr
     obtain⟨rfl,rfl⟩:=hr
     refine⟨rfl,fun st2=>?_⟩
     rw[rM (fun _ _ _ _ e=>by cases e)]
     simp only[O.run,hy,hk]
    |_=>simp[O.run,hy,hk]at hr
   |_=>simp[O.run,hy,hk]at hr
  |_=>simp[O.run,hy]at hr
 case sliceA n sz y lo hi=>
  rw[rM (fun _ _ _ _ e=>by cases e)]at hr
  cases hy:y.ev ρ with
  |ptr p off=>
   refine rd p (by simp only[O.acc,hy]) fun st2 h1 h2=>?_
   rw[rM (fun _ _ _ _ e=>by cases e)]
   simp only[O.run,hy]at hr ⊢
   rw[jR h1 h2]
   obtain⟨c,h1,h2⟩:=Option.bind_eq_some_iff.1 hr
   rw[h1,Option.bind_some]
   split at h2
   ·split at h2
    ·rename_i ha hb hc
     simp only[Option.some.injEq,Prod.mk.injEq]at h2
     simp only[hb,ha,hc,and_self,if_true,h2.1]
    ·cases h2
   ·cases h2
  |_=>simp[O.run,hy]at hr
 case store sz y z=>
  cases hy:y.ev ρ with
  |ptr p off=>
   rw[rM (fun _ _ _ _ e=>by cases e)]at hr
   have e:(O.store sz y z).acc mv ρ=.w p:=by simp only[O.acc,hy]
   rw[e]
   simp only[O.run,hy]at hr
   split at hr<;>try contradiction
   rename_i hl
   obtain⟨b,h6,h7⟩:=Option.bind_eq_some_iff.1 hr
   obtain⟨cs,h8,h9⟩:=Option.bind_eq_some_iff.1 h7
   obtain⟨c',h10,h11⟩:=Option.map_eq_some_iff.1 h9
   cases h11
   clear ff rd nn
   refine⟨by simp only[Fl.eff,ae],fun st2 ha=>?_⟩
   obtain⟨a1,a2⟩:=ha
   rw[rM (fun _ _ _ _ e=>by cases e)]
   simp only[O.run,hy]
   rw[a2,if_neg hl,a1,h6,Option.bind_some,h8,Option.bind_some,h10,Option.map_some]
   simp only[Fl.eff,ae,a2]
  |_=>rw[rM (fun _ _ _ _ e=>by cases e)]at hr;simp[O.run,hy]at hr
 case append sz b y z=>
  cases mv with
  |true=>exact ff rfl
  |false=>
   cases hy:y.ev ρ with
   |slice t1 s1 xs=>
    cases hz:z.ev ρ with
    |slice t2 s2 ys=>
     have e:(O.append sz b y z).acc false ρ=.t:=by simp only[O.acc,hy,hz]
     rw[e]
     have hr':dt sz b (y.ev ρ) (z.ev ρ) st=some (d,st'):=hr
     obtain⟨h1,h2⟩:=qs hy hz hr'
     exact⟨h1,fun st2 ha=>h2 st2 ha⟩
    |_=>exact ff (by simp only[O.acc,hy,hz])
   |_=>exact ff (by simp only[O.acc,hy])
 case alloc=>exact ff rfl
 case box=>exact ff rfl
 case appendZ=>exact ff rfl
 case mkmap=>exact ff rfl
 case rangeM=>exact ff rfl
 case nextM=>exact ff rfl
 case entryM=>exact ff rfl
 case mapset=>exact ff rfl
 case clear=>exact ff rfl
 case call=>exact ff rfl
 case bad=>exact ff rfl
 all_goals
  refine nn rfl ?_
  rw[rM (fun _ _ _ _ e=>by cases e)]at hr
  simp only[rM (fun _ _ _ _ e=>by cases e)]
  simp only[O.run]at hr ⊢
 case build=>obtain⟨c,h1,h2⟩:=Option.map_eq_some_iff.1 hr;cases h2;exact⟨rfl,fun st2=>by rw[h1];rfl⟩
 case slice=>obtain⟨c,h1,h2⟩:=Option.map_eq_some_iff.1 hr;cases h2;exact⟨rfl,fun st2=>by rw[h1];rfl⟩
 case bslice=>
  split at hr
  ·rename_i hc
   simp only[Option.some.injEq,Prod.mk.injEq]at hr
   obtain⟨rfl,rfl⟩:=hr
   exact⟨rfl,fun st2=>by rw[if_pos hc]⟩
  ·cases hr
 case bin=>obtain⟨c,h1,h2⟩:=Option.map_eq_some_iff.1 hr;cases h2;exact⟨rfl,fun st2=>by rw[h1];rfl⟩
 all_goals
  repeat' (split at hr)
 all_goals first
  |contradiction
  |(cases hr;done)
  |(simp only[Option.some.injEq,Prod.mk.injEq]at hr;obtain⟨rfl,rfl⟩:=hr;exact⟨rfl,fun st2=>by simp_all⟩)
  |(simp only[Option.map_eq_some_iff,Prod.mk.injEq]at hr;obtain⟨c,h1,rfl,rfl⟩:=hr;exact⟨rfl,fun st2=>by simp_all⟩)
end
end Go.Ev
