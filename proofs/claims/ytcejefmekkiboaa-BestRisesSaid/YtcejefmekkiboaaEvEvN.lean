/-
  Rules by short names, whose plain premises show themselves.
-/
import Derived.Test.YtcejefmekkiboaaEvEvX11
import Derived.Test.YtcejefmekkiboaaEvEvX11
import Derived.Test.YtcejefmekkiboaaEvEvX11
set_option linter.unusedVariables false
set_option linter.unusedSimpArgs false
set_option linter.unnecessarySimpa false
namespace Go.Ev
section
variable {Γ:Nat→Option FD} {ρ:Nat→D} {st:Store} {dr:Bool} {R:(Nat→D)→Store→List Fl→Prop} {l:List Op1} {g:Option (Nat×Bool)} {mv:Bool} {k:Nat} {x y c a b i:A} {κ:IntKind} {n m:Int}
theorem mI (h:WS Γ dr l (ap ρ k (.int κ n)) st (nx .n R)) (hx:x.ev ρ=.int κ n:=by exact rfl) (hg:ao ρ g=some true:=by exact rfl) (hm:mv=false:=by exact rfl):WS Γ dr (⟨some k,g,mv,.mov x⟩::l) ρ st R:=aB hg hx hm h
theorem mB {t:Bool} (h:WS Γ dr l (ap ρ k (.bool t)) st (nx .n R)) (hx:x.ev ρ=.bool t:=by exact rfl) (hg:ao ρ g=some true:=by exact rfl) (hm:mv=false:=by exact rfl):WS Γ dr (⟨some k,g,mv,.mov x⟩::l) ρ st R:=aB hg hx hm h
theorem mS {t:Tok} {s:Nat} {xs:List D} (h:WS Γ dr l (ap ρ k (.slice t s xs)) st (nx .n R)) (hx:x.ev ρ=.slice t s xs:=by exact rfl) (hg:ao ρ g=some true:=by exact rfl) (hm:mv=false:=by exact rfl):WS Γ dr (⟨some k,g,mv,.mov x⟩::l) ρ st R:=aB hg hx hm h
theorem mT {xs:List D} (h:WS Γ dr l (ap ρ k (.tuple xs)) st (nx .n R)) (hx:x.ev ρ=.tuple xs:=by exact rfl) (hg:ao ρ g=some true:=by exact rfl) (hm:mv=false:=by exact rfl):WS Γ dr (⟨some k,g,mv,.mov x⟩::l) ρ st R:=aB hg hx hm h
theorem mP {p o:Nat} (h:WS Γ dr l (ap ρ k (.ptr p o)) st (nx .n R)) (hx:x.ev ρ=.ptr p o:=by exact rfl) (hg:ao ρ g=some true:=by exact rfl) (hm:mv=false:=by exact rfl):WS Γ dr (⟨some k,g,mv,.mov x⟩::l) ρ st R:=aB hg hx hm h
theorem mM {p:Nat} (h:WS Γ dr l (ap ρ k (.map p)) st (nx .n R)) (hx:x.ev ρ=.map p:=by exact rfl) (hg:ao ρ g=some true:=by exact rfl) (hm:mv=false:=by exact rfl):WS Γ dr (⟨some k,g,mv,.mov x⟩::l) ρ st R:=aB hg hx hm h
theorem mR {p o s n c:Nat} (h:WS Γ dr l (ap ρ k (.rs p o s n c)) st (nx .n R)) (hx:x.ev ρ=.rs p o s n c:=by exact rfl) (hg:ao ρ g=some true:=by exact rfl) (hm:mv=false:=by exact rfl):WS Γ dr (⟨some k,g,mv,.mov x⟩::l) ρ st R:=aB hg hx hm h
theorem pB {t u:Bool} (h:WS Γ dr l (ap ρ k (.bool u)) st (nx .n R)) (hc:c.ev ρ=.bool t:=by exact rfl) (hx:(if t then a.ev ρ else b.ev ρ)=.bool u:=by exact rfl) (hg:ao ρ g=some true:=by exact rfl) (hm:mv=false:=by exact rfl):WS Γ dr (⟨some k,g,mv,.pick c a b⟩::l) ρ st R:=bU hg hc hx hm h
theorem eB {vs:List D} {j:Nat} {t:Bool} (h:WS Γ dr l (ap ρ k (.bool t)) st (nx .n R)) (hx:x.ev ρ=.tuple vs:=by exact rfl) (hd:vs[j]?=some (.bool t):=by exact rfl) (hg:ao ρ g=some true:=by exact rfl) (hm:mv=false:=by exact rfl):WS Γ dr (⟨some k,g,mv,.extract x j⟩::l) ρ st R:=bi hg hm hx hd h
theorem eI {vs:List D} {j:Nat} (h:WS Γ dr l (ap ρ k (.int κ n)) st (nx .n R)) (hx:x.ev ρ=.tuple vs:=by exact rfl) (hd:vs[j]?=some (.int κ n):=by exact rfl) (hg:ao ρ g=some true:=by exact rfl) (hm:mv=false:=by exact rfl):WS Γ dr (⟨some k,g,mv,.extract x j⟩::l) ρ st R:=bi hg hm hx hd h
theorem eS {vs:List D} {j:Nat} {t:Tok} {s:Nat} {xs:List D} (h:WS Γ dr l (ap ρ k (.slice t s xs)) st (nx .n R)) (hx:x.ev ρ=.tuple vs:=by exact rfl) (hd:vs[j]?=some (.slice t s xs):=by exact rfl) (hg:ao ρ g=some true:=by exact rfl) (hm:mv=false:=by exact rfl):WS Γ dr (⟨some k,g,mv,.extract x j⟩::l) ρ st R:=bi hg hm hx hd h
theorem eA {vs cs:List D} {j:Nat} (h:WS Γ dr l (ap ρ k (.agg cs)) st (nx .n R)) (hx:x.ev ρ=.tuple vs:=by exact rfl) (hd:vs[j]?=some (.agg cs):=by exact rfl) (hg:ao ρ g=some true:=by exact rfl) (hm:mv=false:=by exact rfl):WS Γ dr (⟨some k,g,mv,.extract x j⟩::l) ρ st R:=bi hg hm hx hd h
theorem aD {s:Int} (h:WS Γ dr l (ap ρ k (.int κ s)) st (nx .n R)) (hx:x.ev ρ=.int κ n:=by exact rfl) (hy:y.ev ρ=.int κ m:=by exact rfl) (hs:κ.wrap (n+m)=s:=by first|exact ea (by omega)|exact rfl) (hg:ao ρ g=some true:=by exact rfl) (hm:mv=false:=by exact rfl):WS Γ dr (⟨some k,g,mv,.bin .add x y⟩::l) ρ st R:=Gq hg hx hy hm hs h
theorem aS {s:Int} (h:WS Γ dr l (ap ρ k (.int κ s)) st (nx .n R)) (hx:x.ev ρ=.int κ n:=by exact rfl) (hy:y.ev ρ=.int κ m:=by exact rfl) (hs:κ.wrap (n - m)=s:=by first|exact ea (by omega)|exact rfl) (hg:ao ρ g=some true:=by exact rfl) (hm:mv=false:=by exact rfl):WS Γ dr (⟨some k,g,mv,.bin .sub x y⟩::l) ρ st R:=F3 hg hx hy hm hs h
theorem lT (h:WS Γ dr l (ap ρ k (.bool true)) st (nx .n R)) (hx:x.ev ρ=.int κ n:=by exact rfl) (hy:y.ev ρ=.int κ m:=by exact rfl) (p:n<m:=by omega) (hg:ao ρ g=some true:=by exact rfl) (hm:mv=false:=by exact rfl):WS Γ dr (⟨some k,g,mv,.bin .lss x y⟩::l) ρ st R:=Ft hg hx hy hm p h
theorem lF (h:WS Γ dr l (ap ρ k (.bool false)) st (nx .n R)) (hx:x.ev ρ=.int κ n:=by exact rfl) (hy:y.ev ρ=.int κ m:=by exact rfl) (p:m≤n:=by omega) (hg:ao ρ g=some true:=by exact rfl) (hm:mv=false:=by exact rfl):WS Γ dr (⟨some k,g,mv,.bin .lss x y⟩::l) ρ st R:=Et hg hx hy hm p h
theorem gT (h:WS Γ dr l (ap ρ k (.bool true)) st (nx .n R)) (hx:x.ev ρ=.int κ n:=by exact rfl) (hy:y.ev ρ=.int κ m:=by exact rfl) (p:m<n:=by omega) (hg:ao ρ g=some true:=by exact rfl) (hm:mv=false:=by exact rfl):WS Γ dr (⟨some k,g,mv,.bin .gtr x y⟩::l) ρ st R:=EU hg hx hy hm p h
theorem gF (h:WS Γ dr l (ap ρ k (.bool false)) st (nx .n R)) (hx:x.ev ρ=.int κ n:=by exact rfl) (hy:y.ev ρ=.int κ m:=by exact rfl) (p:n≤m:=by omega) (hg:ao ρ g=some true:=by exact rfl) (hm:mv=false:=by exact rfl):WS Γ dr (⟨some k,g,mv,.bin .gtr x y⟩::l) ρ st R:=Ef hg hx hy hm p h
theorem nT {t:Bool} (h:WS Γ dr l (ap ρ k (.bool (!t))) st (nx .n R)) (hx:x.ev ρ=.bool t:=by exact rfl) (hg:ao ρ g=some true:=by exact rfl) (hm:mv=false:=by exact rfl):WS Γ dr (⟨some k,g,mv,.not x⟩::l) ρ st R:=Gy hg hx hm h
theorem fD {p off o:Nat} (h:WS Γ dr l (ap ρ k (.ptr p (o+off))) st (nx .n R)) (hx:x.ev ρ=.ptr p o:=by exact rfl) (hg:ao ρ g=some true:=by exact rfl) (hm:mv=false:=by exact rfl):WS Γ dr (⟨some k,g,mv,.faddr off x⟩::l) ρ st R:=C5 hg hm hx h
theorem lN {α:Type} {ls:List α} {f:α→D} {t:Tok} {sz:Nat} (h:WS Γ dr l (ap ρ k (.int .i64 (ls.length:Nat))) st (nx .n R)) (hx:x.ev ρ=.slice t sz (ls.map f):=by exact rfl) (hg:ao ρ g=some true:=by exact rfl) (hm:mv=false:=by exact rfl):WS Γ dr (⟨some k,g,mv,.lenS x⟩::l) ρ st R:=Fy hg hm hx h
theorem iA {t:Tok} {sz s:Nat} {xs:List D} (j:Nat) (hj:j<xs.length) (h:WS Γ dr l (ap ρ k (.eptr sz xs j 0)) st (nx .n R)) (hx:x.ev ρ=.slice t s xs:=by exact rfl) (hi:i.ev ρ=.int κ (j:Int):=by exact rfl) (hs:s=sz:=by exact rfl) (hg:ao ρ g=some true:=by exact rfl) (hm:mv=false:=by exact rfl):WS Γ dr (⟨some k,g,mv,.iaddrS sz x i⟩::l) ρ st R:=dT hg hm hx hi hs hj h
theorem lE {α:Type} {ls:List α} {f:α→D} {v:α} {s j off sz:Nat} {agg:Bool} {d:D} (hv:ls[j]?=some v) (h:WS Γ dr l (ap ρ k d) st (nx .n R)) (hx:x.ev ρ=.eptr s (ls.map f) j off:=by exact rfl) (hc:cut agg sz off (f v).cells=some d:=by exact rfl) (hg:ao ρ g=some true:=by exact rfl) (hm:mv=false:=by exact rfl):WS Γ dr (⟨some k,g,mv,.load agg sz x⟩::l) ρ st R:=C2 hg hm hx hv hc h
theorem lO {cs:List D} {p off sz:Nat} {agg:Bool} {d:D} (h:WS Γ dr l (ap ρ k d) st (nx (.r p) R)) (hx:x.ev ρ=.ptr p off:=by exact rfl) (hb:(st.boxes p).bind Box.cs=some cs:=by exact rfl) (hl:st.lim≤p:=by first|exact Nat.zero_le _|omega) (hc:cut agg sz off cs=some d:=by exact rfl) (hg:ao ρ g=some true:=by exact rfl) (hm:mv=false:=by exact rfl):WS Γ dr (⟨some k,g,mv,.load agg sz x⟩::l) ρ st R:=ai hg hm hx hb hl hc h
theorem cA {f:A} {as:List A} {fn:Nat} {caps:List D} {r:D} (hf:f.ev ρ=.func fn caps) (hr:EvP Γ fn ((as.map (·.ev ρ)++caps).map D.strip) r) (h:WS Γ dr l (ap ρ k r) st (nx .n R)) (ha:((as.map (·.ev ρ)++caps).map D.strip).all D.freeA=true:=by exact rfl) (hs:r.still=true:=by exact rfl) (hg:ao ρ g=some true:=by exact rfl) (hm:mv=false:=by exact rfl):WS Γ dr (⟨some k,g,mv,.call f as⟩::l) ρ st R:=dE hg hf ha hr hs hm h
end
end Go.Ev
