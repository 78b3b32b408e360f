/-
  Rules to run the evaluator's code by hand: rows that are written to in place, rows of the caller's.
-/
import Derived.Test.YtjcilbnbciclpaaEvEvX6
set_option linter.unusedVariables false
set_option linter.unusedSimpArgs false
set_option linter.unnecessarySimpa false
namespace Go.Ev
theorem px {c:D} (h:c.plain=true):c.strip1=c:=(gr h).2
theorem sL {cs:List D} (h:cs.all D.plain=true):cs.map D.strip1=cs:=by
 rw[List.all_eq_true]at h
 exact(List.map_congr_left fun x hx=>px (h x hx)).trans (List.map_id' _)
theorem oc {cs:List D} {sz i:Nat} {xs:List D} {x:D} (hc:cs.take (xs.length*sz)=xs.flatMap D.cells) (hxs:∀d∈xs,d.cells.length=sz) (hx:xs[i]?=some x):(cs.drop (i*sz)).take sz=x.cells:=by
 have hi:i<xs.length:=(List.getElem?_eq_some_iff.mp hx).1
 have h1:=kx hxs hx
 rw[←hc,List.drop_take,List.take_take]at h1
 rwa[Nat.min_eq_left (by rw[←Nat.sub_mul];exact Nat.le_mul_of_pos_left _ (by omega))]at h1
theorem yb {cs:List D} {sz i:Nat} {xs ys:List D} (hlen:xs.length*sz≤cs.length) (hc:cs.take (xs.length*sz)=xs.flatMap D.cells) (hxs:∀d∈xs,d.cells.length=sz) (hx:xs[i]?=some (.agg ys)):cut true sz (i*sz) cs=some (.agg ys):=by
 have hi:i<xs.length:=(List.getElem?_eq_some_iff.mp hx).1
 unfold cut
 have h1:=oc hc hxs hx
 have h2:i*sz+sz≤xs.length*sz:=by rw[←Nat.succ_mul];exact Nat.mul_le_mul_right _ hi
 rw[if_pos (by omega),if_pos rfl,h1]
 rfl
def RowAt (st:Store) (p sz:Nat) (xs:List D):Prop:=∃cs,st.boxes p=some (.row cs)∧xs.length*sz≤cs.length∧cs.take (xs.length*sz)=xs.flatMap D.cells∧cs.all D.plain=true
theorem RowIs.at{st:Store} {p sz:Nat} {xs:List D} (h:RowIs st p sz xs):RowAt st p sz xs:=h.2.2
theorem RowAt.of {st st':Store} {p sz:Nat} {xs:List D} (h:RowAt st p sz xs) (hb:st'.boxes p=st.boxes p):RowAt st' p sz xs:=by
 obtain⟨cs,h1,h2⟩:=h
 exact⟨cs,hb.trans h1,h2⟩
theorem RowIs.of {st st':Store} {p sz:Nat} {xs:List D} (h:RowIs st p sz xs) (hl:st'.lim≤p) (hn:p<st'.next) (hb:st'.boxes p=st.boxes p):RowIs st' p sz xs:=⟨hl,hn,h.at.of hb⟩
theorem RowAt.pre {st:Store} {p sz:Nat} {xs ys:List D} (h:RowAt st p sz (xs++ys)) (hxs:∀d∈xs,d.cells.length=sz):RowAt st p sz xs:=by
 obtain⟨cs,h1,h2,h3,h4⟩:=h
 have e:(xs++ys).length*sz=xs.length*sz+ys.length*sz:=by rw[List.length_append,Nat.add_mul]
 refine⟨cs,h1,by omega,?_,h4⟩
 have:=congrArg (List.take (xs.length*sz)) h3
 rw[List.take_take,e,Nat.min_eq_left (by omega),List.flatMap_append,List.take_append_of_le_length (by rw[bz hxs];exact Nat.le_refl _),List.take_of_length_le (l:=xs.flatMap D.cells) (by rw[bz hxs];exact Nat.le_refl _)]at this
 exact this
theorem qy {sz:Nat}:∀{xs:List D},(∀d∈xs,d.cells.length=sz)→∀{i:Nat} {x:D},x.cells.length=sz→i<xs.length→((xs.set i x).flatMap D.cells)=(xs.flatMap D.cells).take (i*sz)++x.cells++(xs.flatMap D.cells).drop (i*sz+sz)
 |[],h,i,x,hx,hi=>by simp at hi
 |d::xs,h,0,x,hx,hi=>by
  have hd:=h d List.mem_cons_self
  simp only[List.set_cons_zero,List.flatMap_cons,Nat.zero_mul,List.take_zero,List.nil_append,Nat.zero_add]
  rw[List.drop_append,List.drop_of_length_le (by omega),List.nil_append,hd,Nat.sub_self,List.drop_zero]
 |d::xs,h,i+1,x,hx,hi=>by
  have hd:=h d List.mem_cons_self
  have ih:=qy (fun y hy=>h y (List.mem_cons_of_mem _ hy)) hx (show i<xs.length by simpa using hi)
  have e:(i+1)*sz=d.cells.length+i*sz:=by rw[Nat.add_mul,hd];omega
  have e2:(i+1)*sz+sz=d.cells.length+(i*sz+sz):=by rw[e];omega
  have t1:(d.cells++xs.flatMap D.cells).take ((i+1)*sz)=d.cells++(xs.flatMap D.cells).take (i*sz):=by rw[e,List.take_length_add_append]
  have t2:(d.cells++xs.flatMap D.cells).drop ((i+1)*sz+sz)=(xs.flatMap D.cells).drop (i*sz+sz):=by rw[e2,List.drop_length_add_append]
  simp only[List.set_cons_succ,List.flatMap_cons]
  rw[ih,t1,t2]
  simp only[List.append_assoc]
section
variable {Γ:Nat→Option FD} {ρ:Nat→D} {st:Store} {dr:Bool} {R:(Nat→D)→Store→List Fl→Prop} {l:List Op1} {g:Option (Nat×Bool)} {mv:Bool} {k:Nat} {x y a i:A}
theorem ef {p off sz j:Nat} {xs ys:List D} (hg:ak ρ g=some true) (hx:x.ev ρ=.ptr p off) (hR:RowAt st p sz xs) (ho:off=j*sz) (hxs:∀d∈xs,d.cells.length=sz) (hj:xs[j]?=some (.agg ys)) (hm:mv=false)
  (h:WS Γ dr l (ap ρ k (.agg ys)) st (nx (.r p) R)):WS Γ dr (⟨some k,g,mv,.load true sz x⟩::l) ρ st R:=by
 obtain⟨cs,h1,h2,h3,h4⟩:=hR
 have hb:(st.boxes p).bind Box.cs=some cs:=by rw[h1];rfl
 have hc:=yb h2 h3 hxs hj
 subst ho
 by_cases hl:p<st.lim
 ·exact ez hg hm hx hb hl (by rw[sL h4];exact hc) h
 ·exact am hg hm hx hb (Nat.le_of_not_lt hl) hc h
theorem j5 {p off sz j:Nat} {xs ys:List D} (hg:ak ρ g=some true) (ha:a.ev ρ=.ptr p off) (hx:x.ev ρ=.agg ys) (hR:RowIs st p sz xs) (ho:off=j*sz) (hxs:∀d∈xs,d.cells.length=sz) (hj:j<xs.length) (hys:ys.length=sz) (hpl:ys.all D.plain=true) (hm:mv=false)
  (h:∀st',st'.lim=st.lim→st'.tlim=st.tlim→st'.toks=st.toks→st'.ntok=st.ntok→st'.next=st.next→RowIs st' p sz (xs.set j (.agg ys))→(∀q,q≠p→st'.boxes q=st.boxes q)→WS Γ dr l ρ st' (nx (.w p) R)):WS Γ dr (⟨none,g,mv,.store sz a x⟩::l) ρ st R:=by
 obtain⟨hl,hp,cs,h1,h2,h3,h4⟩:=hR
 subst ho
 have hsz:j*sz+sz≤xs.length*sz:=by rw[←Nat.succ_mul];exact Nat.mul_le_mul_right _ hj
 have hone:ys.all D.one=true:=by
  rw[List.all_eq_true]at hpl ⊢
  exact fun c hc=>D.plain_one (hpl c hc)
 refine an (cs':=cs.take (j*sz)++ys++cs.drop (j*sz+sz)) hg ha h1 rfl hl hx ?_ hm (h _ rfl rfl rfl rfl rfl ⟨hl,hp,_,ae _ _ _,?_,?_,?_⟩ (fun q hq=>ab _ _ hq))
 ·simp only[gA]
  rw[if_pos (show (D.agg ys).cells.length=sz∧j*sz+sz≤cs.length∧(D.agg ys).cells.all D.one=true from⟨hys,by omega,hone⟩)]
  rfl
 ·simp only[List.length_set,List.length_append,List.length_take,List.length_drop,hys]
  omega
 ·rw[List.length_set,qy hxs (x:=.agg ys) hys hj,←h3]
  have e1:(cs.take (xs.length*sz)).take (j*sz)=cs.take (j*sz):=by rw[List.take_take,Nat.min_eq_left (by omega)]
  have e2:(cs.take (xs.length*sz)).drop (j*sz+sz)=(cs.drop (j*sz+sz)).take (xs.length*sz - (j*sz+sz)):=by rw[List.drop_take]
  rw[e1,e2,List.take_append,List.take_of_length_le (by simp[hys];omega)]
  congr 2
  simp[hys]
  omega
 ·rw[List.all_append,List.all_append,hpl,Bool.and_true]
  rw[List.all_eq_true]at h4
  simp only[Bool.and_eq_true,List.all_eq_true]
  exact⟨fun c hc=>h4 c (List.mem_of_mem_take hc),fun c hc=>h4 c (List.mem_of_mem_drop hc)⟩
theorem sh {p off sz n c j:Nat} {zero xs zs:List D} (hg:ak ρ g=some true) (hx:x.ev ρ=.rs p off sz n c) (hR:RowIs st p sz (xs++zs)) (ho:off=j*sz) (hj:j=xs.length) (hn:n=zs.length) (hxs:∀d∈xs,d.cells.length=sz) (hz:zero.length=sz) (hzp:zero.all D.plain=true) (hm:mv=false)
  (h:∀st',st'.lim=st.lim→st'.tlim=st.tlim→st'.toks=st.toks→st'.ntok=st.ntok→st'.next=st.next→RowIs st' p sz xs→(∀q,q≠p→st'.boxes q=st.boxes q)→WS Γ dr l ρ st' (nx .f R)):WS Γ dr (⟨none,g,mv,.clear zero x⟩::l) ρ st R:=by
 subst hm
 obtain⟨hl,hp,hA⟩:=hR
 have hA':=RowAt.pre hA hxs
 obtain⟨cs,h1,h2,h3,h4⟩:=hA
 obtain⟨cs',h1',h2',h3',_⟩:=hA'
 rw[h1]at h1'
 cases h1'
 subst ho hj hn
 have e:(xs++zs).length*sz=xs.length*sz+zs.length*sz:=by rw[List.length_append,Nat.add_mul]
 by_cases h0:zs.length=0
 ·refine WS_op (d:=.undef) (st1:=st) hg rfl (by simp[O.runM,O.run,hx,h0]) (h st rfl rfl rfl rfl rfl ⟨hl,hp,cs,h1,h2',h3',h4⟩ (fun _ _=>rfl))
 ·refine WS_op (d:=.undef) (st1:={st with boxes:=ap st.boxes p (some (.row (cs.take (xs.length*sz)++(List.replicate zs.length zero).flatten++cs.drop (xs.length*sz+zs.length*sz))))}) hg rfl ?_ (h _ rfl rfl rfl rfl rfl ⟨hl,hp,_,ae _ _ _,?_,?_,?_⟩ (fun q hq=>ab _ _ hq))
  ·simp only[O.runM,O.run,hx,h0,if_false,Nat.not_lt.mpr hl,h1,Option.bind_some,Box.cs,Box.set]
   rw[if_pos ⟨by omega,hz⟩]
  ·simp only[List.length_append,List.length_take]
   omega
  ·rw[List.append_assoc,List.take_append_of_le_length (by simp;omega),List.take_of_length_le (by simp;omega),h3']
  ·rw[List.all_append,List.all_append]
   rw[List.all_eq_true]at h4
   simp only[Bool.and_eq_true,List.all_eq_true]
   refine⟨⟨fun c hc=>h4 c (List.mem_of_mem_take hc),fun c hc=>?_⟩,fun c hc=>h4 c (List.mem_of_mem_drop hc)⟩
   obtain⟨z,hz1,hz2⟩:=List.mem_flatten.mp hc
   rw[(List.mem_replicate.mp hz1).2]at hz2
   exact List.all_eq_true.mp hzp c hz2
theorem cB {f:A} {as:List A} {fn:Nat} {caps:List D} {r:D} (hg:ak ρ g=some true) (hf:f.ev ρ=.func fn caps) (ha:((as.map (·.ev ρ)++caps).map D.strip).all D.freeA=false) (hr:EvRO Γ fn (as.map (·.ev ρ)++caps) st r)
  (hs:r.still=true) (hm:mv=false) (h:WS Γ dr l (ap ρ k r) st (nx .c R)):WS Γ dr (⟨some k,g,mv,.call f as⟩::l) ρ st R:=
 oH hg rfl hf ha hr (fun _=>⟨jl hs,hm⟩) (io hs) h
theorem ld {f:A} {as:List A} {fn:Nat} {caps:List D} {t:Bool} (hg:ak ρ g=some true) (hf:f.ev ρ=.func fn caps) (ha:((as.map (·.ev ρ)++caps).map D.strip).all D.freeA=false) (hr:EvRO Γ fn (as.map (·.ev ρ)++caps) st (.bool t))
  (hm:mv=false) (h1:t=true→WS Γ dr l (ap ρ k (.bool true)) st (nx .c R)) (h2:t=false→WS Γ dr l (ap ρ k (.bool false)) st (nx .c R)):WS Γ dr (⟨some k,g,mv,.call f as⟩::l) ρ st R:=by
 cases t with
 |true=>exact cB hg hf ha hr rfl hm (h1 rfl)
 |false=>exact cB hg hf ha hr rfl hm (h2 rfl)
theorem xp {f:A} {as:List A} {fn:Nat} {caps:List D} {r:D} {st1:Store} (hg:ak ρ g=some true) (hf:f.ev ρ=.func fn caps) (ha:((as.map (·.ev ρ)++caps).map D.strip).all D.freeA=false) (hr:EvRW Γ fn (as.map (·.ev ρ)++caps) st r st1)
  (h:WS Γ dr l (ap ρ k r) st1 (nx .f R)) (hmv:dr=true→mv=false:=by first|exact fun _=>rfl|exact fun h=>nomatch h):WS Γ dr (⟨some k,g,mv,.call f as⟩::l) ρ st R:=
 bQ hg rfl hf hr h hmv
end
end Go.Ev
