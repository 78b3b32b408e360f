/-
  An edge of a contact.
-/
import Derived.Test.YtdjokmfncammeaaVieVieN
set_option linter.unusedVariables false
set_option linter.unusedSimpArgs false
set_option linter.unnecessarySimpa false
namespace Go.Vie
open Go.Ev
set_option linter.unusedVariables false
set_option linter.unusedSimpArgs false
/-- A ledger that counts. -/
structure Led (lg : List Bk) : Prop where
  hs : Srt lg
  hl : lg.length ≤ 1073741824
  hu : ∀ id, (row lg id).U
/-- The edge of a contact, where a range is known. -/
def mkE (lg : List Bk) (c : Ct) (k o : Int) : Eg := ⟨c.id, c.fr, c.to, clampI (c.st + ceilI (bkl (row lg c.id) k) c.ra) 0 1099511627776, c.en, c.ra, o, room lg c.id c.fr c.to c.st c.en c.ra k⟩
def edg (rs : List Rg) (lg : List Bk) (k : Int) (c : Ct) : Option Eg := if c.ok then (owl rs c).map (mkE lg c k) else none
theorem resEdge {ρ : Nat → D} {st : Store} {p : Nat} {cs : List D} {t : Bool} (h2 : ρ 8 = .ptr p 0) (h3 : ρ 9 = .bool t) (hb : (st.boxes p).bind Box.cs = some cs) (hl : st.lim ≤ p) (hs : cs.length = 8) : resAll ρ st c_view_Edge.res = some (.tuple [.agg cs, .bool t]) := by
  have e : cs.take 8 = cs := List.take_of_length_le (by omega)
  simp [resAll, resD, c_view_Edge, h2, h3, Store.cellsAt, hb, Nat.not_lt.mpr hl, cut, hs, e]
theorem edge_close {ρ : Nat → D} {st : Store} {x : Option Eg} {X0 : X} (hx : X0 = .normal ∨ X0 = .ret) (h2 : ρ 8 = .ptr 2 0) (h3 : ρ 9 = .bool x.isSome) (hb : (st.boxes 2).bind Box.cs = some (x.getD zeroE).e.cells) (hl : st.lim ≤ 2) : (X0 = .normal ∨ X0 = .ret) ∧ (resAll ρ st c_view_Edge.res).bind (finP st) = some (.tuple [(x.getD zeroE).e, .bool x.isSome]) := by
  refine ⟨hx, ?_⟩
  rw [resEdge h2 h3 hb hl rfl]
  rfl
set_option maxHeartbeats 2000000 in
theorem s_Edge (p : Pl) (hp : p.Sm) (lg : List Bk) (hlg : Led lg) (c : Ct) (hc : In64 c.en) (k : Int) (t : Tok) (sz : Nat) (hsz : sz = 4 ∨ lg = []) : EvP Γ 12 [p.e, .slice t sz (lg.map Bk.e), c.e, .int .i64 k] (.tuple [((edg p.rs lg k c).getD zeroE).e, .bool (edg p.rs lg k c).isSome]) := by
  have hO := s_Owlt p.rs c hp.hr .no 5 (.inl rfl)
  have hK := s_cok c hc
  have hB := fun t => s_Backlog lg c.id k hlg.hs (by have := hlg.hl; omega) (hlg.hu _) t sz hsz
  have hR := fun t => s_Room lg c.id c.fr c.to c.st c.en c.ra k hc hlg.hs (by have := hlg.hl; omega) (hlg.hu _) t sz hsz
  have hbk := bkl_in (hlg.hu c.id) k
  refine EvP_code rfl rfl ?_
  by_cases hok : c.ok
  · cases ho : owl p.rs c with
    | none =>
      rw [ho] at hO
      have e : edg p.rs lg k c = none := by unfold edg; rw [if_pos hok, ho]; rfl
      rw [e]
      repeat' (first
 | (refine I_WS ?_; first
 | (refine I_mov ?_; first
 | refine W_skip rfl ?_
 | refine W_mov (v := .int _ _) rfl rfl rfl ?_
 | refine W_mov (v := .bool _) rfl rfl rfl ?_
 | refine W_mov (v := .slice _ _ _) rfl rfl rfl ?_
 | refine W_mov (v := .agg _) rfl rfl rfl ?_
 | refine W_mov (v := .ptr _ _) rfl rfl rfl ?_
 | refine W_mov (v := .func _ _) rfl rfl rfl ?_
 | refine W_mov (v := .eptr _ _ _ _) rfl rfl rfl ?_
 | refine W_mov (v := .rs _ _ _ _ _) rfl rfl rfl ?_
 | refine W_mov (v := .tuple _) rfl rfl rfl ?_
 | refine W_mov (v := .map _) rfl rfl rfl ?_
 | refine W_mov (v := .str _) rfl rfl rfl ?_
 | refine W_mov (v := .nilptr) rfl rfl rfl ?_)
 | (refine I_bin ?_; first
 | refine W_skip rfl ?_
 | refine W_add rfl rfl rfl rfl (by first | exact w64 (by omega) | rfl) ?_)
 | (refine I_load ?_; first
 | refine W_skip rfl ?_
 | refine W_load (agg := false) (d := .int _ _) rfl rfl rfl rfl (by first | exact Nat.zero_le _ | omega) rfl ?_
 | refine W_load (agg := false) (d := .bool _) rfl rfl rfl rfl (by first | exact Nat.zero_le _ | omega) rfl ?_
 | refine W_load (agg := false) (d := .slice _ _ _) rfl rfl rfl rfl (by first | exact Nat.zero_le _ | omega) rfl ?_
 | refine W_load (agg := false) (d := .ptr _ _) rfl rfl rfl rfl (by first | exact Nat.zero_le _ | omega) rfl ?_
 | refine W_load (agg := false) (d := .func _ _) rfl rfl rfl rfl (by first | exact Nat.zero_le _ | omega) rfl ?_
 | refine W_load (agg := true) (d := .agg [_, _, _, _]) rfl rfl rfl rfl (by first | exact Nat.zero_le _ | omega) rfl ?_
 | refine W_load (agg := true) (d := .agg [_, _, _, _, _, _]) rfl rfl rfl rfl (by first | exact Nat.zero_le _ | omega) rfl ?_
 | refine W_load (agg := true) (d := .agg [_, _, _, _, _, _, _, _]) rfl rfl rfl rfl (by first | exact Nat.zero_le _ | omega) rfl ?_)
 | (refine I_call ?_; first
 | refine W_skip rfl ?_
 | refine W_call rfl rfl rfl hO rfl rfl ?_
 | (refine W_callB rfl rfl rfl hK rfl ?_ ?_ <;> intro _))
 | (refine I_pick ?_; first
 | refine W_pick (v := .int _ _) rfl rfl rfl rfl ?_
 | refine W_pick (v := .bool _) rfl rfl rfl rfl ?_
 | refine W_pick (v := .slice _ _ _) rfl rfl rfl rfl ?_
 | refine W_pick (v := .agg _) rfl rfl rfl rfl ?_
 | refine W_skip rfl ?_)
 | (refine I_extract ?_; first
 | refine W_extract (d := .int _ _) rfl rfl rfl rfl ?_
 | refine W_extract (d := .bool _) rfl rfl rfl rfl ?_
 | refine W_extract (d := .slice _ _ _) rfl rfl rfl rfl ?_
 | refine W_extract (d := .agg _) rfl rfl rfl rfl ?_
 | refine W_extract (d := .ptr _ _) rfl rfl rfl rfl ?_
 | refine W_extract (d := .func _ _) rfl rfl rfl rfl ?_
 | refine W_skip rfl ?_)
 | (refine I_build ?_; first
 | refine W_build (cs := [_, _, _, _]) rfl rfl rfl ?_
 | refine W_build (cs := [_, _, _, _, _, _]) rfl rfl rfl ?_
 | refine W_build (cs := [_, _, _, _, _, _, _, _]) rfl rfl rfl ?_
 | refine W_skip rfl ?_)
 | (refine I_box ?_; first
 | refine W_boxA rfl rfl rfl rfl rfl ?_
 | refine W_box1 (v := .slice _ _ _) rfl rfl rfl rfl rfl ?_
 | refine W_box1 (v := .int _ _) rfl rfl rfl rfl rfl ?_
 | refine W_box1 (v := .bool _) rfl rfl rfl rfl rfl ?_
 | refine W_box1 (v := .ptr _ _) rfl rfl rfl rfl rfl ?_
 | refine W_skip rfl ?_)
 | (refine I_store ?_; first
 | refine W_store (cs' := [_, _, _, _]) rfl rfl rfl rfl (by first | exact Nat.zero_le _ | omega) rfl rfl rfl ?_
 | refine W_store (cs' := [_, _, _, _, _, _]) rfl rfl rfl rfl (by first | exact Nat.zero_le _ | omega) rfl rfl rfl ?_
 | refine W_store (cs' := [_, _, _, _, _, _, _, _]) rfl rfl rfl rfl (by first | exact Nat.zero_le _ | omega) rfl rfl rfl ?_
 | refine W_skip0 rfl ?_)
 | refine W_not rfl rfl rfl ?_
 | refine W_faddr rfl rfl rfl ?_
 | refine W_faddrE rfl rfl rfl ?_
 | refine W_faddrM rfl rfl ?_
 | refine W_alloc rfl rfl ?_
 | refine W_skip rfl ?_
 | refine WS_nil ?_)
 | refine WC_seq ?_
 | refine WC_opsS ?_
 | refine WC_drawS ?_
 | refine WC_skip ?_
 | refine WC_condT rfl ?_
 | refine WC_condF rfl ?_
 | refine WC_ret ?_
 | refine okF_intro rfl ?_)
      refine edge_close (x := none) (.inr rfl) ?_ ?_ ?_ ?_ <;> first | rfl | exact Nat.zero_le _
    | some o =>
      rw [ho] at hO
      have e : edg p.rs lg k c = some (mkE lg c k o) := by unfold edg; rw [if_pos hok, ho]; rfl
      rw [e]
      have hra : 1 ≤ c.ra := hok.2.2.2.1
      have hst : 0 ≤ c.st ∧ c.st ≤ 2147483647 := by have := hok.2.1; omega
      have hCe := s_Ceil (bkl (row lg c.id) k) c.ra hbk.1 hbk.2 hra
      have hci := ceilI_in hbk.1 hra
      unfold mkE
      generalize bkl (row lg c.id) k = bl at *
      generalize ceilI bl c.ra = ce at *
      generalize room lg c.id c.fr c.to c.st c.en c.ra k = rm at *
      rw [decide_eq_true hok] at hK
      have hCl := s_Clamp (c.st + ce) 0 1099511627776
      generalize clampI (c.st + ce) 0 1099511627776 = cl at *
      have hca : IntKind.wrap .i64 (c.st + ce) = c.st + ce := w64 (by omega)
      clear hbk hlg
      repeat' (first
 | (refine I_WS ?_; first
 | refine W_add rfl rfl rfl rfl hca ?_
 | refine W_build (cs := [_, _, _, _, _, _, _, _]) rfl rfl rfl ?_
 | (refine I_mov ?_; first
 | refine W_skip rfl ?_
 | refine W_mov (v := .int _ _) rfl rfl rfl ?_
 | refine W_mov (v := .bool _) rfl rfl rfl ?_
 | refine W_mov (v := .slice _ _ _) rfl rfl rfl ?_
 | refine W_mov (v := .agg _) rfl rfl rfl ?_
 | refine W_mov (v := .ptr _ _) rfl rfl rfl ?_
 | refine W_mov (v := .func _ _) rfl rfl rfl ?_
 | refine W_mov (v := .eptr _ _ _ _) rfl rfl rfl ?_
 | refine W_mov (v := .rs _ _ _ _ _) rfl rfl rfl ?_
 | refine W_mov (v := .tuple _) rfl rfl rfl ?_
 | refine W_mov (v := .map _) rfl rfl rfl ?_
 | refine W_mov (v := .str _) rfl rfl rfl ?_
 | refine W_mov (v := .nilptr) rfl rfl rfl ?_)
 | (refine I_bin ?_; first
 | refine W_skip rfl ?_
 | refine W_add rfl rfl rfl rfl (by first | exact w64 (by omega) | rfl) ?_)
 | (refine I_load ?_; first
 | refine W_skip rfl ?_
 | refine W_load (agg := false) (d := .int _ _) rfl rfl rfl rfl (by first | exact Nat.zero_le _ | omega) rfl ?_
 | refine W_load (agg := false) (d := .bool _) rfl rfl rfl rfl (by first | exact Nat.zero_le _ | omega) rfl ?_
 | refine W_load (agg := false) (d := .slice _ _ _) rfl rfl rfl rfl (by first | exact Nat.zero_le _ | omega) rfl ?_
 | refine W_load (agg := false) (d := .ptr _ _) rfl rfl rfl rfl (by first | exact Nat.zero_le _ | omega) rfl ?_
 | refine W_load (agg := false) (d := .func _ _) rfl rfl rfl rfl (by first | exact Nat.zero_le _ | omega) rfl ?_
 | refine W_load (agg := true) (d := .agg [_, _, _, _]) rfl rfl rfl rfl (by first | exact Nat.zero_le _ | omega) rfl ?_
 | refine W_load (agg := true) (d := .agg [_, _, _, _, _, _]) rfl rfl rfl rfl (by first | exact Nat.zero_le _ | omega) rfl ?_
 | refine W_load (agg := true) (d := .agg [_, _, _, _, _, _, _, _]) rfl rfl rfl rfl (by first | exact Nat.zero_le _ | omega) rfl ?_)
 | (refine I_call ?_; first
 | refine W_skip rfl ?_
 | refine W_call rfl rfl rfl hO rfl rfl ?_
 | refine W_call rfl rfl rfl hK rfl rfl ?_
 | refine W_call rfl rfl rfl (hB _) rfl rfl ?_
 | refine W_call rfl rfl rfl hCe rfl rfl ?_
 | refine W_call rfl rfl rfl hCl rfl rfl ?_
 | refine W_call rfl rfl rfl (hR _) rfl rfl ?_)
 | (refine I_pick ?_; first
 | refine W_pick (v := .int _ _) rfl rfl rfl rfl ?_
 | refine W_pick (v := .bool _) rfl rfl rfl rfl ?_
 | refine W_pick (v := .slice _ _ _) rfl rfl rfl rfl ?_
 | refine W_pick (v := .agg _) rfl rfl rfl rfl ?_
 | refine W_skip rfl ?_)
 | (refine I_extract ?_; first
 | refine W_extract (d := .int _ _) rfl rfl rfl rfl ?_
 | refine W_extract (d := .bool _) rfl rfl rfl rfl ?_
 | refine W_extract (d := .slice _ _ _) rfl rfl rfl rfl ?_
 | refine W_extract (d := .agg _) rfl rfl rfl rfl ?_
 | refine W_extract (d := .ptr _ _) rfl rfl rfl rfl ?_
 | refine W_extract (d := .func _ _) rfl rfl rfl rfl ?_
 | refine W_skip rfl ?_)
 | (refine I_build ?_; first
 | refine W_build (cs := [_, _, _, _]) rfl rfl rfl ?_
 | refine W_build (cs := [_, _, _, _, _, _]) rfl rfl rfl ?_
 | refine W_build (cs := [_, _, _, _, _, _, _, _]) rfl rfl rfl ?_
 | refine W_skip rfl ?_)
 | (refine I_box ?_; first
 | refine W_boxA rfl rfl rfl rfl rfl ?_
 | refine W_box1 (v := .slice _ _ _) rfl rfl rfl rfl rfl ?_
 | refine W_box1 (v := .int _ _) rfl rfl rfl rfl rfl ?_
 | refine W_box1 (v := .bool _) rfl rfl rfl rfl rfl ?_
 | refine W_box1 (v := .ptr _ _) rfl rfl rfl rfl rfl ?_
 | refine W_skip rfl ?_)
 | (refine I_store ?_; first
 | refine W_store (cs' := [_, _, _, _]) rfl rfl rfl rfl (by first | exact Nat.zero_le _ | omega) rfl rfl rfl ?_
 | refine W_store (cs' := [_, _, _, _, _, _]) rfl rfl rfl rfl (by first | exact Nat.zero_le _ | omega) rfl rfl rfl ?_
 | refine W_store (cs' := [_, _, _, _, _, _, _, _]) rfl rfl rfl rfl (by first | exact Nat.zero_le _ | omega) rfl rfl rfl ?_
 | refine W_skip0 rfl ?_)
 | refine W_not rfl rfl rfl ?_
 | refine W_faddr rfl rfl rfl ?_
 | refine W_faddrE rfl rfl rfl ?_
 | refine W_faddrM rfl rfl ?_
 | refine W_alloc rfl rfl ?_
 | refine W_skip rfl ?_
 | refine WS_nil ?_)
 | refine WC_seq ?_
 | refine WC_opsS ?_
 | refine WC_drawS ?_
 | refine WC_skip ?_
 | refine WC_condT rfl ?_
 | refine WC_condF rfl ?_
 | refine WC_ret ?_
 | refine okF_intro rfl ?_)
      refine edge_close (x := some ⟨c.id, c.fr, c.to, cl, c.en, c.ra, o, rm⟩) (.inr rfl) ?_ ?_ ?_ ?_ <;> first | rfl | exact Nat.zero_le _
  · have e : edg p.rs lg k c = none := by unfold edg; rw [if_neg hok]
    rw [e]
    rw [decide_eq_false hok] at hK
    cases ho : owl p.rs c with
    | none =>
      rw [ho] at hO
      repeat' (first
 | (refine I_WS ?_; first
 | (refine I_mov ?_; first
 | refine W_skip rfl ?_
 | refine W_mov (v := .int _ _) rfl rfl rfl ?_
 | refine W_mov (v := .bool _) rfl rfl rfl ?_
 | refine W_mov (v := .slice _ _ _) rfl rfl rfl ?_
 | refine W_mov (v := .agg _) rfl rfl rfl ?_
 | refine W_mov (v := .ptr _ _) rfl rfl rfl ?_
 | refine W_mov (v := .func _ _) rfl rfl rfl ?_
 | refine W_mov (v := .eptr _ _ _ _) rfl rfl rfl ?_
 | refine W_mov (v := .rs _ _ _ _ _) rfl rfl rfl ?_
 | refine W_mov (v := .tuple _) rfl rfl rfl ?_
 | refine W_mov (v := .map _) rfl rfl rfl ?_
 | refine W_mov (v := .str _) rfl rfl rfl ?_
 | refine W_mov (v := .nilptr) rfl rfl rfl ?_)
 | (refine I_bin ?_; first
 | refine W_skip rfl ?_
 | refine W_add rfl rfl rfl rfl (by first | exact w64 (by omega) | rfl) ?_)
 | (refine I_load ?_; first
 | refine W_skip rfl ?_
 | refine W_load (agg := false) (d := .int _ _) rfl rfl rfl rfl (by first | exact Nat.zero_le _ | omega) rfl ?_
 | refine W_load (agg := false) (d := .bool _) rfl rfl rfl rfl (by first | exact Nat.zero_le _ | omega) rfl ?_
 | refine W_load (agg := false) (d := .slice _ _ _) rfl rfl rfl rfl (by first | exact Nat.zero_le _ | omega) rfl ?_
 | refine W_load (agg := false) (d := .ptr _ _) rfl rfl rfl rfl (by first | exact Nat.zero_le _ | omega) rfl ?_
 | refine W_load (agg := false) (d := .func _ _) rfl rfl rfl rfl (by first | exact Nat.zero_le _ | omega) rfl ?_
 | refine W_load (agg := true) (d := .agg [_, _, _, _]) rfl rfl rfl rfl (by first | exact Nat.zero_le _ | omega) rfl ?_
 | refine W_load (agg := true) (d := .agg [_, _, _, _, _, _]) rfl rfl rfl rfl (by first | exact Nat.zero_le _ | omega) rfl ?_
 | refine W_load (agg := true) (d := .agg [_, _, _, _, _, _, _, _]) rfl rfl rfl rfl (by first | exact Nat.zero_le _ | omega) rfl ?_)
 | (refine I_call ?_; first
 | refine W_skip rfl ?_
 | refine W_call rfl rfl rfl hO rfl rfl ?_
 | refine W_call rfl rfl rfl hK rfl rfl ?_)
 | (refine I_pick ?_; first
 | refine W_pick (v := .int _ _) rfl rfl rfl rfl ?_
 | refine W_pick (v := .bool _) rfl rfl rfl rfl ?_
 | refine W_pick (v := .slice _ _ _) rfl rfl rfl rfl ?_
 | refine W_pick (v := .agg _) rfl rfl rfl rfl ?_
 | refine W_skip rfl ?_)
 | (refine I_extract ?_; first
 | refine W_extract (d := .int _ _) rfl rfl rfl rfl ?_
 | refine W_extract (d := .bool _) rfl rfl rfl rfl ?_
 | refine W_extract (d := .slice _ _ _) rfl rfl rfl rfl ?_
 | refine W_extract (d := .agg _) rfl rfl rfl rfl ?_
 | refine W_extract (d := .ptr _ _) rfl rfl rfl rfl ?_
 | refine W_extract (d := .func _ _) rfl rfl rfl rfl ?_
 | refine W_skip rfl ?_)
 | (refine I_build ?_; first
 | refine W_build (cs := [_, _, _, _]) rfl rfl rfl ?_
 | refine W_build (cs := [_, _, _, _, _, _]) rfl rfl rfl ?_
 | refine W_build (cs := [_, _, _, _, _, _, _, _]) rfl rfl rfl ?_
 | refine W_skip rfl ?_)
 | (refine I_box ?_; first
 | refine W_boxA rfl rfl rfl rfl rfl ?_
 | refine W_box1 (v := .slice _ _ _) rfl rfl rfl rfl rfl ?_
 | refine W_box1 (v := .int _ _) rfl rfl rfl rfl rfl ?_
 | refine W_box1 (v := .bool _) rfl rfl rfl rfl rfl ?_
 | refine W_box1 (v := .ptr _ _) rfl rfl rfl rfl rfl ?_
 | refine W_skip rfl ?_)
 | (refine I_store ?_; first
 | refine W_store (cs' := [_, _, _, _]) rfl rfl rfl rfl (by first | exact Nat.zero_le _ | omega) rfl rfl rfl ?_
 | refine W_store (cs' := [_, _, _, _, _, _]) rfl rfl rfl rfl (by first | exact Nat.zero_le _ | omega) rfl rfl rfl ?_
 | refine W_store (cs' := [_, _, _, _, _, _, _, _]) rfl rfl rfl rfl (by first | exact Nat.zero_le _ | omega) rfl rfl rfl ?_
 | refine W_skip0 rfl ?_)
 | refine W_not rfl rfl rfl ?_
 | refine W_faddr rfl rfl rfl ?_
 | refine W_faddrE rfl rfl rfl ?_
 | refine W_faddrM rfl rfl ?_
 | refine W_alloc rfl rfl ?_
 | refine W_skip rfl ?_
 | refine WS_nil ?_)
 | refine WC_seq ?_
 | refine WC_opsS ?_
 | refine WC_drawS ?_
 | refine WC_skip ?_
 | refine WC_condT rfl ?_
 | refine WC_condF rfl ?_
 | refine WC_ret ?_
 | refine okF_intro rfl ?_)
      refine edge_close (x := none) (.inr rfl) ?_ ?_ ?_ ?_ <;> first | rfl | exact Nat.zero_le _
    | some o =>
      rw [ho] at hO
      repeat' (first
 | (refine I_WS ?_; first
 | (refine I_mov ?_; first
 | refine W_skip rfl ?_
 | refine W_mov (v := .int _ _) rfl rfl rfl ?_
 | refine W_mov (v := .bool _) rfl rfl rfl ?_
 | refine W_mov (v := .slice _ _ _) rfl rfl rfl ?_
 | refine W_mov (v := .agg _) rfl rfl rfl ?_
 | refine W_mov (v := .ptr _ _) rfl rfl rfl ?_
 | refine W_mov (v := .func _ _) rfl rfl rfl ?_
 | refine W_mov (v := .eptr _ _ _ _) rfl rfl rfl ?_
 | refine W_mov (v := .rs _ _ _ _ _) rfl rfl rfl ?_
 | refine W_mov (v := .tuple _) rfl rfl rfl ?_
 | refine W_mov (v := .map _) rfl rfl rfl ?_
 | refine W_mov (v := .str _) rfl rfl rfl ?_
 | refine W_mov (v := .nilptr) rfl rfl rfl ?_)
 | (refine I_bin ?_; first
 | refine W_skip rfl ?_
 | refine W_add rfl rfl rfl rfl (by first | exact w64 (by omega) | rfl) ?_)
 | (refine I_load ?_; first
 | refine W_skip rfl ?_
 | refine W_load (agg := false) (d := .int _ _) rfl rfl rfl rfl (by first | exact Nat.zero_le _ | omega) rfl ?_
 | refine W_load (agg := false) (d := .bool _) rfl rfl rfl rfl (by first | exact Nat.zero_le _ | omega) rfl ?_
 | refine W_load (agg := false) (d := .slice _ _ _) rfl rfl rfl rfl (by first | exact Nat.zero_le _ | omega) rfl ?_
 | refine W_load (agg := false) (d := .ptr _ _) rfl rfl rfl rfl (by first | exact Nat.zero_le _ | omega) rfl ?_
 | refine W_load (agg := false) (d := .func _ _) rfl rfl rfl rfl (by first | exact Nat.zero_le _ | omega) rfl ?_
 | refine W_load (agg := true) (d := .agg [_, _, _, _]) rfl rfl rfl rfl (by first | exact Nat.zero_le _ | omega) rfl ?_
 | refine W_load (agg := true) (d := .agg [_, _, _, _, _, _]) rfl rfl rfl rfl (by first | exact Nat.zero_le _ | omega) rfl ?_
 | refine W_load (agg := true) (d := .agg [_, _, _, _, _, _, _, _]) rfl rfl rfl rfl (by first | exact Nat.zero_le _ | omega) rfl ?_)
 | (refine I_call ?_; first
 | refine W_skip rfl ?_
 | refine W_call rfl rfl rfl hO rfl rfl ?_
 | refine W_call rfl rfl rfl hK rfl rfl ?_)
 | (refine I_pick ?_; first
 | refine W_pick (v := .int _ _) rfl rfl rfl rfl ?_
 | refine W_pick (v := .bool _) rfl rfl rfl rfl ?_
 | refine W_pick (v := .slice _ _ _) rfl rfl rfl rfl ?_
 | refine W_pick (v := .agg _) rfl rfl rfl rfl ?_
 | refine W_skip rfl ?_)
 | (refine I_extract ?_; first
 | refine W_extract (d := .int _ _) rfl rfl rfl rfl ?_
 | refine W_extract (d := .bool _) rfl rfl rfl rfl ?_
 | refine W_extract (d := .slice _ _ _) rfl rfl rfl rfl ?_
 | refine W_extract (d := .agg _) rfl rfl rfl rfl ?_
 | refine W_extract (d := .ptr _ _) rfl rfl rfl rfl ?_
 | refine W_extract (d := .func _ _) rfl rfl rfl rfl ?_
 | refine W_skip rfl ?_)
 | (refine I_build ?_; first
 | refine W_build (cs := [_, _, _, _]) rfl rfl rfl ?_
 | refine W_build (cs := [_, _, _, _, _, _]) rfl rfl rfl ?_
 | refine W_build (cs := [_, _, _, _, _, _, _, _]) rfl rfl rfl ?_
 | refine W_skip rfl ?_)
 | (refine I_box ?_; first
 | refine W_boxA rfl rfl rfl rfl rfl ?_
 | refine W_box1 (v := .slice _ _ _) rfl rfl rfl rfl rfl ?_
 | refine W_box1 (v := .int _ _) rfl rfl rfl rfl rfl ?_
 | refine W_box1 (v := .bool _) rfl rfl rfl rfl rfl ?_
 | refine W_box1 (v := .ptr _ _) rfl rfl rfl rfl rfl ?_
 | refine W_skip rfl ?_)
 | (refine I_store ?_; first
 | refine W_store (cs' := [_, _, _, _]) rfl rfl rfl rfl (by first | exact Nat.zero_le _ | omega) rfl rfl rfl ?_
 | refine W_store (cs' := [_, _, _, _, _, _]) rfl rfl rfl rfl (by first | exact Nat.zero_le _ | omega) rfl rfl rfl ?_
 | refine W_store (cs' := [_, _, _, _, _, _, _, _]) rfl rfl rfl rfl (by first | exact Nat.zero_le _ | omega) rfl rfl rfl ?_
 | refine W_skip0 rfl ?_)
 | refine W_not rfl rfl rfl ?_
 | refine W_faddr rfl rfl rfl ?_
 | refine W_faddrE rfl rfl rfl ?_
 | refine W_faddrM rfl rfl ?_
 | refine W_alloc rfl rfl ?_
 | refine W_skip rfl ?_
 | refine WS_nil ?_)
 | refine WC_seq ?_
 | refine WC_opsS ?_
 | refine WC_drawS ?_
 | refine WC_skip ?_
 | refine WC_condT rfl ?_
 | refine WC_condF rfl ?_
 | refine WC_ret ?_
 | refine okF_intro rfl ?_)
      refine edge_close (x := none) (.inr rfl) ?_ ?_ ?_ ?_ <;> first | rfl | exact Nat.zero_le _
end Go.Vie
