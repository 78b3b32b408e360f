/-
  Rules to run the evaluator's code by hand: rows of the store.
-/
import Derived.Test.YtjcilbnbciclpaaEvEvX2
set_option linter.unusedVariables false
set_option linter.unusedSimpArgs false
set_option linter.unnecessarySimpa false
namespace Go.Ev
def RowIs (st:Store) (p sz:Nat) (xs:List D):Prop:=st.lim≤p∧p<st.next∧∃cs,st.boxes p=some (.row cs)∧xs.length*sz≤cs.length∧cs.take (xs.length*sz)=xs.flatMap D.cells∧cs.all D.plain=true
def gL (sz:Nat) (d:D):Prop:=d.cells.length=sz∧d.cells.all D.plain=true
theorem bz {sz:Nat}:∀{xs:List D},(∀d∈xs,d.cells.length=sz)→(xs.flatMap D.cells).length=xs.length*sz
 |[],h=>by simp
 |d::xs,h=>by
  rw[List.flatMap_cons,List.length_append,bz (fun x hx=>h x (List.mem_cons_of_mem _ hx)),h d List.mem_cons_self,List.length_cons]
  rw[Nat.add_mul];omega
theorem kx {sz:Nat}:∀{xs:List D},(∀d∈xs,d.cells.length=sz)→∀{i:Nat} {d:D},xs[i]?=some d→((xs.flatMap D.cells).drop (i*sz)).take sz=d.cells
 |[],h,i,d,hd=>by simp at hd
 |x::xs,h,0,d,hd=>by
  simp only[List.getElem?_cons_zero,Option.some.injEq]at hd
  subst hd
  rw[List.flatMap_cons,Nat.zero_mul,List.drop_zero,List.take_append_of_le_length (by rw[h x List.mem_cons_self];exact Nat.le_refl _),List.take_of_length_le (by rw[h x List.mem_cons_self];exact Nat.le_refl _)]
 |x::xs,h,i+1,d,hd=>by
  rw[List.flatMap_cons,show (i+1)*sz=x.cells.length+i*sz by rw[h x List.mem_cons_self,Nat.add_mul];omega,List.drop_append,]
  rw[List.drop_of_length_le (by omega),List.nil_append,Nat.add_sub_cancel_left]
  exact kx (fun y hy=>h y (List.mem_cons_of_mem _ hy)) (by simpa using hd)
theorem mG {sz:Nat} {xs:List D} {cs:List D} (h:∀d∈xs,d.cells.length=sz∧qC d.cells=d) (hc:cs.take (xs.length*sz)=xs.flatMap D.cells):bH sz xs.length cs=xs:=by
 apply List.ext_getElem?
 intro i
 unfold bH
 rw[List.getElem?_map]
 by_cases hi:i<xs.length
 ·rw[List.getElem?_range hi,Option.map_some,List.getElem?_eq_getElem hi]
  congr 1
  have hx:=h xs[i] (List.getElem_mem hi)
  have h1:=kx (sz:=sz) (fun d hd=>(h d hd).1) (List.getElem?_eq_getElem hi)
  rw[←hc,List.drop_take,List.take_take]at h1
  rw[Nat.min_eq_left (by rw[←Nat.sub_mul];exact Nat.le_mul_of_pos_left _ (by omega))]at h1
  rw[h1]
  exact hx.2
 ·rw[List.getElem?_eq_none (by simpa using hi),List.getElem?_eq_none (by omega)]
  rfl
section
variable {Γ:Nat→Option FD} {ρ:Nat→D} {st:Store} {dr:Bool} {R:(Nat→D)→Store→List Fl→Prop} {l:List Op1} {g:Option (Nat×Bool)} {mv:Bool} {k:Nat} {x y i:A}
theorem RowIs.app {p sz n c bytes:Nat} {t:Tok} {s:Nat} {xs ys:List D} (hR:RowIs st p sz xs) (hn:n=xs.length) (hs:s=sz∨ys=[]) (hxs:∀d∈xs,d.cells.length=sz) (hys:∀d∈ys,gL sz d) (hb:(n+ys.length)*bytes≤140737488355328):
  ∃p' c' st',fc sz bytes (.rs p 0 sz n c) (.slice t s ys) st=some (.rs p' 0 sz (n+ys.length) c',st')∧st'.lim=st.lim∧st'.tlim=st.tlim∧st'.toks=st.toks∧st'.ntok=st.ntok∧RowIs st' p' sz (xs++ys)∧(∀q,q≠p→q<st.next→st'.boxes q=st.boxes q)∧st.next≤st'.next∧(p'=p∨st.next≤p'):=by
 subst hn
 obtain⟨hl,hp,cs,hb0,hlen,htk,hpl⟩:=hR
 have hm:iH sz (.slice t s ys) st=some (ys.flatMap D.cells,ys.length):=by
  simp only[iH]
  rw[if_pos (by rcases hs with rfl|rfl<;>simp)]
 have hyl:=bz (fun d hd=>(hys d hd).1)
 have hyp:(ys.flatMap D.cells).all D.plain=true:=by
  rw[List.all_eq_true]
  intro c hc
  obtain⟨d,hd,hcd⟩:=List.mem_flatMap.mp hc
  exact List.all_eq_true.mp (hys d hd).2 c hcd
 have hxl:=bz hxs
 have e:(xs.length+ys.length)*sz=xs.length*sz+ys.length*sz:=Nat.add_mul _ _ _
 have hlen':(xs++ys).length*sz=xs.length*sz+ys.length*sz:=by rw[List.length_append,e]
 simp only[fc,hm,Option.bind_some,hb0]
 by_cases hfit:xs.length+ys.length≤c∧0+(xs.length+ys.length)*sz≤cs.length
 ·rw[if_pos ⟨trivial,hl,by omega⟩,if_pos hfit]
  refine⟨_,_,_,rfl,rfl,rfl,rfl,rfl,⟨hl,hp,_,ae _ _ _,?_,?_,?_⟩,fun q hq _=>by simp[ap,hq],Nat.le_refl _,.inl rfl⟩
  ·simp only[List.length_append,List.length_take,List.length_drop,hyl]
   rw[Nat.add_mul]
   omega
  ·rw[hlen',Nat.zero_add,Nat.zero_add,List.flatMap_append,htk]
   rw[List.take_append_of_le_length (by rw[List.length_append,hyl,hxl];exact Nat.le_refl _),List.take_of_length_le (by rw[List.length_append,hyl,hxl];exact Nat.le_refl _)]
  ·rw[List.all_append,List.all_append,hyp,Bool.and_true]
   rw[List.all_eq_true]at hpl
   simp only[Bool.and_eq_true,List.all_eq_true]
   exact⟨fun c hc=>hpl c (List.mem_of_mem_take hc),fun c hc=>hpl c (List.mem_of_mem_drop hc)⟩
 ·rw[if_pos ⟨trivial,hl,by omega⟩,if_neg hfit,if_pos ⟨trivial,hb⟩]
  refine⟨_,_,_,rfl,rfl,rfl,rfl,rfl,⟨Nat.le_of_lt (Nat.lt_of_le_of_lt hl hp),Nat.lt_succ_self _,_,ae _ _ _,?_,?_,?_⟩,fun q hq hq2=>?_,Nat.le_succ _,.inr (Nat.le_refl _)⟩
  ·simp only[htk,List.length_append,hyl,hxl,e];exact Nat.le_refl _
  ·rw[htk,List.flatMap_append,hlen',List.take_of_length_le (by rw[List.length_append,hyl,hxl];exact Nat.le_refl _)]
  ·rw[List.all_append,hyp,Bool.and_true]
   rw[List.all_eq_true]at hpl ⊢
   exact fun c hc=>hpl c (List.mem_of_mem_take hc)
  ·simp only
   rw[ab _ _ (by omega),ab _ _ hq]
theorem rb {p sz n c bytes:Nat} {t:Tok} {s:Nat} {xs ys:List D} (hg:ak ρ g=some true) (hx:x.ev ρ=.rs p 0 sz n c) (hy:y.ev ρ=.slice t s ys) (hR:RowIs st p sz xs) (hn:n=xs.length) (hs:s=sz∨ys=[]) (hxs:∀d∈xs,d.cells.length=sz) (hys:∀d∈ys,gL sz d) (hb:(n+ys.length)*bytes≤140737488355328)
  (h:∀p' c' st',st'.lim=st.lim→st'.tlim=st.tlim→st'.toks=st.toks→st'.ntok=st.ntok→RowIs st' p' sz (xs++ys)→(∀q,q≠p→q<st.next→st'.boxes q=st.boxes q)→st.next≤st'.next→(p'=p∨st.next≤p')→WS Γ dr l (ap ρ k (.rs p' 0 sz (n+ys.length) c')) st' (nx .f R)):WS Γ dr (⟨some k,g,mv,.append sz bytes x y⟩::l) ρ st R:=by
 obtain⟨p',c',st',h1,h2,h3,h4,h5,h6,h7,h8,h9⟩:=RowIs.app (t:=t) (c:=c) hR hn hs hxs hys hb
 refine WS_op hg rfl ?_ (h p' c' st' h2 h3 h4 h5 h6 h7 h8 h9)
 cases mv<;>simp only[O.runM,O.run,hx,hy,e9,dt,h1]
theorem kH {sz bytes s0 s:Nat} {t0 t:Tok} {xs ys:List D} (hg:ak ρ g=some true) (hx:x.ev ρ=.slice t0 s0 xs) (ht:t0=.exact∨t0=.isnil) (hs0:s0=sz∨xs=[]) (hy:y.ev ρ=.slice t s ys) (hm:mv=true) (hs:s=sz∨ys=[]) (h0:0<ys.length) (hxs:∀d∈xs,gL sz d) (hys:∀d∈ys,gL sz d) (hb:(xs.length+ys.length)*bytes≤140737488355328)
  (hl:st.lim≤st.next)
  (h:∀st',st'.lim=st.lim→st'.tlim=st.tlim→st'.toks=st.toks→st'.ntok=st.ntok→RowIs st' st.next sz (xs++ys)→(∀q,q<st.next→st'.boxes q=st.boxes q)→st'.next=st.next+1→WS Γ dr l (ap ρ k (.rs st.next 0 sz (xs.length+ys.length) (xs.length+ys.length))) st' (nx .f R)):WS Γ dr (⟨some k,g,mv,.append sz bytes x y⟩::l) ρ st R:=by
 subst hm
 have hmo:iH sz (.slice t s ys) st=some (ys.flatMap D.cells,ys.length):=by
  simp only[iH]
  rw[if_pos (by rcases hs with rfl|rfl<;>simp)]
 have hyl:=bz (fun d hd=>(hys d hd).1)
 have hxl:=bz (fun d hd=>(hxs d hd).1)
 have hpl:∀{zs:List D},(∀d∈zs,gL sz d)→(zs.flatMap D.cells).all D.plain=true:=fun hz=>by
  rw[List.all_eq_true]
  intro c hc
  obtain⟨d,hd,hcd⟩:=List.mem_flatMap.mp hc
  exact List.all_eq_true.mp (hz d hd).2 c hcd
 refine WS_op (d:=.rs st.next 0 sz (xs.length+ys.length) (xs.length+ys.length)) hg rfl ?_ (h {st with boxes:=ap st.boxes st.next (some (.row (xs.flatMap D.cells++ys.flatMap D.cells))),next:=st.next+1} rfl rfl rfl rfl ⟨hl,Nat.lt_succ_self _,_,ae _ _ _,?_,?_,?_⟩ (fun q hq=>ab _ _ (by omega)) rfl)
 ·have hc:(s0=sz∨xs.isEmpty):=by rcases hs0 with h|h<;>simp[h]
  rcases ht with rfl|rfl<;>simp only[O.runM,hx,hy,e9,hmo,Option.bind_some]<;>rw[if_pos ⟨hc,hb,h0⟩]
 ·rw[List.length_append,List.length_append,hyl,hxl,Nat.add_mul];exact Nat.le_refl _
 ·rw[List.flatMap_append,List.take_of_length_le (by rw[List.length_append,List.length_append,hyl,hxl,Nat.add_mul];exact Nat.le_refl _)]
 ·rw[List.all_append,hpl hxs,hpl hys];rfl
theorem mH {p off sz n c j:Nat} (hg:ak ρ g=some true) (hx:x.ev ρ=.rs p off sz n c) (hi:bE (i.ev ρ)=some j) (hj:j≤c) (hm:mv=false)
  (h:WS Γ dr l (ap ρ k (.rs p off sz j c)) st (nx .n R)):WS Γ dr (⟨some k,g,mv,.slice sz x none (some i) none⟩::l) ρ st R:=
 jK hg rfl (by simp[O.run,hx,ki,hi,hj]) hm h
theorem sQ {p off sz n c j:Nat} (hg:ak ρ g=some true) (hx:x.ev ρ=.rs p off sz n c) (hi:bE (i.ev ρ)=some j) (hj:j≤n) (hc:n≤c) (hm:mv=false)
  (h:WS Γ dr l (ap ρ k (.rs p (off+j*sz) sz (n - j) (c - j))) st (nx .n R)):WS Γ dr (⟨some k,g,mv,.slice sz x (some i) none none⟩::l) ρ st R:=
 jK hg rfl (by simp[O.run,hx,ki,hi,hj,hc]) hm h
theorem mq {X0:X} {rs:List Rs} {p sz n c:Nat} {xs:List D} (hx:X0=.normal∨X0=.ret) (h1:aB ρ st rs=some (.rs p 0 sz n c)) (hn:n=xs.length) (h0:0<sz) (hR:RowIs st p sz xs) (hxs:∀d∈xs,d.cells.length=sz∧qC d.cells=d):(X0=.normal∨X0=.ret)∧(aB ρ st rs).bind (dy st)=some (.slice .row sz xs):=by
 subst hn
 obtain⟨hl,hp,cs,hb0,hlen,htk,hpl⟩:=hR
 refine⟨hx,?_⟩
 rw[h1]
 simp only[Option.bind_some,dy,D.free,D.free1,Bool.false_eq_true,if_false,xE,df,hb0]
 rw[if_pos ⟨trivial,hlen,h0,hpl⟩,mG hxs htk]
end
end Go.Ev
