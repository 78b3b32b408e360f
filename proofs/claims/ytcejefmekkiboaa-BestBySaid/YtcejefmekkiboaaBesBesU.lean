/-
  The small case of best.
-/
import Derived.ProofKit
import Derived.Test.YtcejefmekkiboaaBesBesV
import Derived.Test.YtcejefmekkiboaaBesOrdSe
set_option linter.unusedVariables false
set_option linter.unusedSimpArgs false
set_option linter.unnecessarySimpa false
namespace Go.Bes
open Go.Ev
theorem yF:EvP Γ2 15 [] (.slice .exact 8 (qz.map Eg.e)):=nv (N:=50) (by kernel_rfl)
theorem qS (a:List Int) (ha:a.length≤1000000) (t:Tok) (s:Nat) (hs:s=1∨a=[]):EvP Γ2 16 [.slice t s (a.map (D.int .i64)),.slice .no 1 (a.map (D.int .i64))] (.bool true):=by
 have:=Ea a a ha t .no s 1 hs (.inl rfl)
 rw[decide_eq_true rfl]at this
 exact this
theorem Ei (t:Tok) (ht:t=.no∨t=.isnil):EvP Γ2 9 [.slice t 2 [.agg [.slice .no 3 [],.int .i64 5]],.slice .no 2 [.agg [.slice .isnil 0 [],.int .i64 5]]] (.bool true):=by
 rcases ht with rfl|rfl<;>exact nv (N:=60) (by kernel_rfl)
theorem Fo {t:Tok}:t.strip=.no∨t.strip=.isnil:=by cases t<;>first|exact .inl rfl|exact .inr rfl
set_option maxHeartbeats 16000000 in
theorem sT:EvP Γ2 7 [] (.bool true):=by
 refine aJ rfl rfl ?_
 have hR:=fun fr to now by' k hk t s hs=>vt qz (Nat.le_of_ble_eq_true rfl) fr to now 0 by' k hk t s hs
 have h1:=fun t=>hR 1 3 0 1000 9 (by decide) t 8 (.inl rfl)
 have h2:=fun t=>hR 1 3 0 1000 2 (by decide) t 8 (.inl rfl)
 have h3:=fun t=>hR 2 2 5 1000 9 (by decide) t 8 (.inl rfl)
 have h4:=fun t=>hR 1 3 0 1000 0 (by decide) t 8 (.inl rfl)
 have h5:=fun t=>hR 3 1 0 1000 9 (by decide) t 8 (.inl rfl)
 rw[BQ]at h1
 rw[BR]at h2
 rw[CA]at h3
 rw[BY]at h4
 rw[Bo]at h5
 clear hR
 have i1:=fun t s h=>(mY zk.hs (Nat.le_of_ble_eq_true rfl) zk.ar t s h).grow ly
 have i2:=fun t s h=>(mY zt.hs (Nat.le_of_ble_eq_true rfl) zt.ar t s h).grow ly
 have i3:=fun t s h=>(mY Ey.hs (Nat.le_of_ble_eq_true rfl) Ey.ar t s h).grow ly
 have i4:=fun t s h=>(mY Em.hs (Nat.le_of_ble_eq_true rfl) Em.ar t s h).grow ly
 have i5:=fun t s h=>(mY Fs.hs (Nat.le_of_ble_eq_true rfl) Fs.ar t s h).grow ly
 have hsm:=fun t t' s s' hs hs'=>(Fw [zk,zt] [zk,zt] (Nat.le_of_ble_eq_true rfl) (fun r hr=>by
  simp only[List.mem_cons,List.not_mem_nil,or_false]at hr
  rcases hr with rfl|rfl<;>exact Nat.le_of_ble_eq_true rfl) t t' s s' hs hs').grow ly
 rw[decide_eq_true rfl]at hsm
 have hn:=yF
 repeat' (first
 |(refine al ?_;first
 |refine mB ?_
 |refine mS ?_
 |refine dE (fn:=15) rfl rfl rfl yF rfl rfl ?_
 |refine Hd ?_)
 |refine He ?_
 |refine Ir ?_)
 refine jG (fn:=8) rfl rfl rfl (h1 _) rfl ?_
 intro t1 s1 z1 tk1 nt1
 obtain rfl:=z1.resolve_right (by simp)
 repeat' (first
 |(refine al ?_;first
 |refine mS ?_
 |refine Hd ?_)
 |refine He ?_
 |refine Ir ?_)
 refine jG (fn:=8) rfl rfl rfl (h2 _) rfl ?_
 intro t2 s2 z2 tk2 nt2
 obtain rfl:=z2.resolve_right (by simp)
 repeat' (first
 |(refine al ?_;first
 |refine mS ?_
 |refine Hd ?_)
 |refine He ?_
 |refine Ir ?_)
 refine jG (fn:=8) rfl rfl rfl (h3 _) rfl ?_
 intro t3 s3 z3 tk3 nt3
 obtain rfl:=z3.resolve_right (by simp)
 repeat' (first
 |(refine al ?_;first
 |refine lN ?_
 |refine dT (j:=0) rfl rfl rfl rfl rfl (by decide) ?_
 |refine ca rfl rfl rfl rfl rfl ?_
 |refine mS ?_
 |refine lE (d:=.agg [_,_]) rfl ?_
 |refine Hd ?_)
 |refine He ?_
 |refine Ir ?_
 |refine Hg ?_
 |refine ah rfl ?_)
 refine cD (fn:=11) rfl rfl rfl (i1 _ _ (.inl rfl)) rfl ?_
 intro u1 v1 w1 x1
 repeat' (first
 |(refine al ?_;first
 |refine bg (ys:=[_,_]) rfl rfl rfl (by decide) rfl ?_))
 refine dE (fn:=16) rfl rfl rfl (qS [1,4] (Nat.le_of_ble_eq_true rfl) _ _ (w1.imp id fun h=>(by cases h))) rfl rfl ?_
 repeat' (first
 |(refine al ?_;first
 |refine dT (j:=1) rfl rfl rfl rfl rfl (by decide) ?_
 |refine mB ?_
 |refine mS ?_
 |refine lE (d:=.agg [_,_]) rfl ?_))
 refine cD (fn:=11) rfl rfl rfl (i2 _ _ (.inl rfl)) rfl ?_
 intro u2 v2 w2 x2
 repeat' (first
 |(refine al ?_;first
 |refine bg (ys:=[_]) rfl rfl rfl (by decide) rfl ?_))
 refine dE (fn:=16) rfl rfl rfl (qS [3] (Nat.le_of_ble_eq_true rfl) _ _ (w2.imp id fun h=>(by cases h))) rfl rfl ?_
 repeat' (first
 |(refine al ?_;first
 |refine dT (j:=2) rfl rfl rfl rfl rfl (by decide) ?_
 |refine mB ?_
 |refine mS ?_
 |refine lE (d:=.agg [_,_]) rfl ?_
 |refine pB ?_))
 refine cD (fn:=11) rfl rfl rfl (i3 _ _ (.inl rfl)) rfl ?_
 intro u3 v3 w3 x3
 repeat' (first
 |(refine al ?_;first
 |refine bg (ys:=[_,_]) rfl rfl rfl (by decide) rfl ?_))
 refine dE (fn:=16) rfl rfl rfl (qS [1,2] (Nat.le_of_ble_eq_true rfl) _ _ (w3.imp id fun h=>(by cases h))) rfl rfl ?_
 repeat' (first
 |(refine al ?_;first
 |refine dT (j:=3) rfl rfl rfl rfl rfl (by decide) ?_
 |refine mB ?_
 |refine mS ?_
 |refine lE (d:=.agg [_,_]) rfl ?_
 |refine pB ?_))
 refine cD (fn:=11) rfl rfl rfl (i4 _ _ (.inl rfl)) rfl ?_
 intro u4 v4 w4 x4
 repeat' (first
 |(refine al ?_;first
 |refine bg (ys:=[_,_]) rfl rfl rfl (by decide) rfl ?_))
 refine dE (fn:=16) rfl rfl rfl (qS [5,2] (Nat.le_of_ble_eq_true rfl) _ _ (w4.imp id fun h=>(by cases h))) rfl rfl ?_
 repeat' (first
 |(refine al ?_;first
 |refine dT (j:=4) rfl rfl rfl rfl rfl (by decide) ?_
 |refine mB ?_
 |refine mS ?_
 |refine lE (d:=.agg [_,_]) rfl ?_
 |refine pB ?_))
 refine cD (fn:=11) rfl rfl rfl (i5 _ _ (.inl rfl)) rfl ?_
 intro u5 v5 w5 x5
 repeat' (first
 |(refine al ?_;first
 |refine bg (ys:=[_,_]) rfl rfl rfl (by decide) rfl ?_))
 refine dE (fn:=16) rfl rfl rfl (qS [5,4] (Nat.le_of_ble_eq_true rfl) _ _ (w5.imp id fun h=>(by cases h))) rfl rfl ?_
 repeat' (first
 |(refine al ?_;first
 |(refine cg (j:=2) rfl rfl (.inl rfl) rfl (by decide) rfl ?_<;>intro t6)
 |refine mB ?_
 |refine mS ?_
 |refine pB ?_))
 refine dE (fn:=9) rfl rfl rfl (hsm _ _ 2 2 (.inl rfl) (.inl rfl)) rfl rfl ?_
 repeat' (first
 |(refine al ?_;first
 |refine mB ?_
 |refine mS ?_
 |refine pB ?_
 |refine bJ (cs:=[_,_]) rfl rfl rfl ?_
 |refine bg (ys:=[_]) rfl rfl rfl (by decide) rfl ?_))
 refine dE (fn:=9) rfl rfl rfl (Ei _ Fo) rfl rfl ?_
 repeat' (first
 |(refine al ?_;first
 |refine mB ?_
 |refine mS ?_
 |refine pB ?_))
 refine jG (fn:=8) rfl rfl rfl (h4 _) rfl ?_
 intro t4 s4 z4 tk4 nt4
 repeat' (first
 |(refine al ?_;first
 |refine lN ?_
 |refine cb rfl rfl rfl rfl rfl ?_
 |refine mB ?_
 |refine mS ?_
 |refine pB ?_))
 refine jG (fn:=8) rfl rfl rfl (h5 _) rfl ?_
 intro t5 s5 z5 tk5 nt5
 repeat' (first
 |(refine al ?_;first
 |refine lN ?_
 |refine cb rfl rfl rfl rfl rfl ?_
 |refine mB ?_
 |refine pB ?_
 |refine Hd ?_)
 |refine an ?_)
 exact aK (.inr rfl) rfl rfl
end Go.Bes
