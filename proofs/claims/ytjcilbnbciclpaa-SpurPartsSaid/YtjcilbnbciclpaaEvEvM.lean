/-
  Rules for maps of numbers.
-/
import Derived.Test.YtjcilbnbciclpaaEvEvX9
set_option linter.unusedVariables false
set_option linter.unusedSimpArgs false
set_option linter.unnecessarySimpa false
namespace Go.Ev
section
variable {Γ:Nat→Option FD} {ρ:Nat→D} {st:Store} {dr:Bool} {R:(Nat→D)→Store→List Fl→Prop} {l:List Op1} {g:Option (Nat×Bool)} {mv:Bool} {k:Nat} {x y z c a b i:A}
theorem eu (hg:ak ρ g=some true) (hm:mv=false) (h:WS Γ dr l (ap ρ k (.map st.next)) {st with boxes:=ap st.boxes st.next (some (.map [])),next:=st.next+1} (nx .f R)):WS Γ dr (⟨some k,g,mv,.mkmap⟩::l) ρ st R:=by
 subst hm
 exact WS_op hg rfl rfl h
theorem gW {zero:D} {p:Nat} {kv:List (Int×D)} {n:Int} {r:D} (hg:ak ρ g=some true) (hx:x.ev ρ=.map p) (hy:y.ev ρ=.int .i64 n) (hb:st.boxes p=some (.map kv)) (hr:(aL n kv).getD zero=r) (hm:mv=false)
  (h:WS Γ dr l (ap ρ k r) st (nx (.r p) R)):WS Γ dr (⟨some k,g,mv,.lookup zero false x y⟩::l) ρ st R:=by
 subst hm
 refine WS_op (d:=r) hg rfl ?_ h (by simp[O.acc,hx])
 simp only[O.runM,O.run,hx,hy,hb]
 cases h1:aL n kv with
 |none=>rw[h1]at hr;simpa using hr
 |some d=>rw[h1]at hr;simpa using hr
theorem aP {zero:D} {p:Nat} {kv:List (Int×D)} {n:Int} {v:D} {t:Bool} (hg:ak ρ g=some true) (hx:x.ev ρ=.map p) (hy:y.ev ρ=.int .i64 n) (hb:st.boxes p=some (.map kv)) (hr:(aL n kv).getD zero=v) (ht:(aL n kv).isSome=t) (hm:mv=false)
  (h:WS Γ dr l (ap ρ k (.tuple [v,.bool t])) st (nx (.r p) R)):WS Γ dr (⟨some k,g,mv,.lookup zero true x y⟩::l) ρ st R:=by
 subst hm
 refine WS_op (d:=.tuple [v,.bool t]) hg rfl ?_ h (by simp[O.acc,hx])
 subst hr ht
 simp only[O.runM,O.run,hx,hy,hb]
 cases h1:aL n kv<;>simp
theorem dk {p sz:Nat} {kv:List (Int×D)} {n:Int} {v:D} (hg:ak ρ g=some true) (hx:x.ev ρ=.map p) (hy:y.ev ρ=.int .i64 n) (hb:st.boxes p=some (.map kv)) (hl:st.lim≤p) (hz:(z.ev ρ).strip=v) (hm:mv=false)
  (h:WS Γ dr l ρ {st with boxes:=ap st.boxes p (some (.map (bM n v kv)))} (nx .f R)):WS Γ dr (⟨none,g,mv,.mapset sz x y z⟩::l) ρ st R:=by
 subst hm
 refine WS_op (d:=.undef) hg rfl ?_ h
 simp only[O.runM,O.run,hx,hy,Nat.not_lt.mpr hl,if_false,hb,hz]
end
theorem fy (n m:Int) (v:D):∀kv:List (Int×D),aL m (bM n v kv)=if m=n then some v else aL m kv
 |[]=>by
  simp only[bM,aL]
  by_cases h:m=n
  ·rw[if_pos h.symm,if_pos h]
  ·rw[if_neg (fun e=>h e.symm),if_neg h]
 |(k,d)::r=>by
  simp only[bM]
  by_cases hk:k=n
  ·rw[if_pos hk]
   simp only[aL]
   by_cases h:m=n
   ·rw[if_pos h.symm,if_pos h]
   ·rw[if_neg (fun e=>h e.symm),if_neg h,if_neg (fun e=>h (e.symm.trans hk))]
  ·rw[if_neg hk]
   simp only[aL]
   rw[fy n m v r]
   by_cases h:k=m
   ·rw[if_pos h,if_neg (fun e=>hk (h.trans e)),if_pos h]
   ·rw[if_neg h,if_neg h]
end Go.Ev
