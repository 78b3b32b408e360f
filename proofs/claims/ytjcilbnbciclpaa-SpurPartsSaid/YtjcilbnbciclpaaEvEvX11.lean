/-
  Rules: a call that hands back a struct whose first cell is a slice, and more; rows that are grown.
-/
import Derived.Test.YtjcilbnbciclpaaEvEvX10
set_option linter.unusedVariables false
set_option linter.unusedSimpArgs false
set_option linter.unnecessarySimpa false
namespace Go.Ev
def uM {α:Type} (e:α→D) (sz:Nat) (ls:List α) (cs vs:List D) (r:D):Prop:=∃t s,r=.tuple (.agg (.slice t s (ls.map e)::cs)::vs)∧(s=sz∨ls=[])
section
variable {Γ:Nat→Option FD} {ρ:Nat→D} {st:Store} {dr:Bool} {R:(Nat→D)→Store→List Fl→Prop} {l:List Op1} {g:Option (Nat×Bool)} {mv:Bool} {k:Nat} {x y:A}
theorem cH {α:Type} {e:α→D} {f:A} {as:List A} {fn:Nat} {caps:List D} {sz:Nat} {xs:List α} {cs vs:List D} (hg:ak ρ g=some true) (hf:f.ev ρ=.func fn caps) (ha:((as.map (·.ev ρ)++caps).map D.strip).all D.freeA=true) (hr:EvX Γ fn ((as.map (·.ev ρ)++caps).map D.strip) (uM e sz xs cs vs))
  (hm:mv=false) (h:∀t s,(s=sz∨xs=[])→∀tk nt,WS Γ false l (ap ρ k (.tuple (.agg (.slice t s (xs.map e)::cs)::vs))) {st with toks:=tk,ntok:=nt} (nx .n R)):WS Γ false (⟨some k,g,mv,.call f as⟩::l) ρ st R:=by
 subst hm
 obtain⟨r,⟨t,s,rfl,hs⟩,hr⟩:=hr
 have key:∃t' tk nt,au false (.tuple (.agg (.slice t s (xs.map e)::cs)::vs)) st=(.tuple (.agg (.slice t' s (xs.map e)::cs)::vs),{st with toks:=tk,ntok:=nt}):=by
  cases t<;>exact⟨_,_,_,rfl⟩
 obtain⟨t',tk,nt,e⟩:=key
 exact dh hg rfl hf ha hr (fun h=>by cases h) e (h t' s hs tk nt)
theorem sC {α:Type} {e:α→D} {X0:X} {rs:List Rs} {t:Tok} {sz s:Nat} {xs ys:List α} {cs vs us cs':List D} (hx:X0=.normal∨X0=.ret) (h1:aB ρ st rs=some (.tuple (.agg (.slice t s (xs.map e)::cs)::vs))) (hg:(D.tuple vs).ground=true) (hc:cs.all D.ground1=true) (hs:s=sz∨xs=[]) (he:xs=ys) (hv:vs=us) (hcc:cs=cs'):(X0=.normal∨X0=.ret)∧∃r,(aB ρ st rs).bind (dy st)=some r∧uM e sz ys cs' us r:=by
 subst he hv hcc
 have hgs:∀w∈vs,w.ground=true:=fun w hw=>by
  simp only[D.ground,List.all_eq_true]at hg
  have:=hg w hw
  cases w<;>simp_all[D.ground,D.ground1]
 have hst:vs.map D.strip=vs:=(List.map_congr_left fun x hx=>c9 (hgs x hx)).trans (List.map_id' _)
 have hcs:cs.map D.strip1=cs:=by
  rw[List.all_eq_true]at hc
  exact(List.map_congr_left fun x hx=>(dl (st:=Store.empty) (hc x hx)).2.1).trans (List.map_id' _)
 have hcf:cs.all D.free1=true:=by
  rw[List.all_eq_true]at hc ⊢
  exact fun x hx=>(dl (st:=Store.empty) (hc x hx)).1
 have hf:(D.tuple (.agg (.slice t s (xs.map e)::cs)::vs)).free=true:=by
  have:=gn hg
  simp only[D.free,List.all_cons,Bool.and_eq_true]at this ⊢
  exact⟨⟨rfl,hcf⟩,this⟩
 refine⟨hx,?_⟩
 rw[h1,Option.bind_some]
 simp only[dy,hf,if_true,dG,aG,hst,hcs]
 have:∃t',(aM st (.slice t s (xs.map e))).getD (D.strip1 (.slice t s (xs.map e)))=.slice t' s (xs.map e):=by
  cases t with
  |own k=>simp only[aM];split<;>exact⟨_,rfl⟩
  |_=>exact⟨_,rfl⟩
 obtain⟨t',e'⟩:=this
 rw[e']
 exact⟨_,rfl,t',s,rfl,hs⟩
def tg {α:Type} (e:α→D) (sz:Nat) (st:Store) (d:D) (out:List α):Prop:=(out=[]∧d=.slice .isnil 0 [])∨∃q n c,n=out.length∧out≠[]∧d=.rs q 0 sz n c∧RowIs st q sz (out.map e)
theorem zW {α:Type} {e:α→D} {sz bytes:Nat} {d:D} {out:List α} {r:α} {t:Tok} (h0:0<sz) (he:∀a,gL sz (e a)) (hg:ak ρ g=some true) (hx:x.ev ρ=d) (hy:y.ev ρ=.slice t sz [e r]) (hm:mv=true) (hO:tg e sz st d out) (hb:(out.length+1)*bytes≤140737488355328) (hl:st.lim≤0)
  (H:∀st' d',st'.lim≤0→tg e sz st' d' (out++[r])→WS Γ dr l (ap ρ k d') st' (nx .f R)):WS Γ dr (⟨some k,g,mv,.append sz bytes x y⟩::l) ρ st R:=by
 have hys:∀d∈[e r],gL sz d:=fun d hd=>by rw[List.mem_singleton.mp hd];exact he r
 rcases hO with⟨rfl,rfl⟩|⟨q,n,c,rfl,h5,rfl,hR⟩
 ·refine kH hg hx (.inr rfl) (.inr rfl) hy hm (.inl rfl) (by simp) (by simp) hys (by simpa using hb) (by omega) (fun st' e1 _ _ _ hR' hoth hn=>?_)
  exact H st' _ (by omega) (.inr ⟨st.next,_,_,rfl,by simp,rfl,by simpa using hR'⟩)
 ·refine rb hg hx hy hR (by simp) (.inl rfl) (fun d hd=>by
   obtain⟨a,_,rfl⟩:=List.mem_map.mp hd
   exact(he a).1) hys (by simpa using hb) (fun p' c' st' e1 _ _ _ hR' hoth hn hp=>?_)
  exact H st' _ (by omega) (.inr ⟨p',_,c',by simp,by simp,rfl,by simpa using hR'⟩)
theorem Aj {α:Type} {e:α→D} {sz:Nat} {X0:X} {rs:List Rs} {d:D} {es:List α} (hs0:0<sz) (hxs:∀a,(e a).cells.length=sz∧qC (e a).cells=e a) (hx:X0=.normal∨X0=.ret) (h1:aB ρ st rs=some d) (hO:tg e sz st d es):(X0=.normal∨X0=.ret)∧∃r,(aB ρ st rs).bind (dy st)=some r∧zO e sz es r:=by
 rcases hO with⟨rfl,rfl⟩|⟨q,n,c,rfl,hne,rfl,hR⟩
 ·exact⟨hx,.slice .isnil 0 [],by rw[h1];rfl,.isnil,0,rfl,.inr rfl,rfl⟩
 ·exact kj (t:=.row) (s:=sz) rfl (.inl rfl) (mq hx h1 (by rw[List.length_map]) hs0 hR (fun d hd=>by
   obtain⟨e,_,rfl⟩:=List.mem_map.mp hd
   exact hxs e))
end
end Go.Ev
