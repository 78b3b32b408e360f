/-
  What the ledger's functions come to: booking and releasing.
-/
import Derived.Test.YtbmhgigljbikhaaLedLedV
set_option linter.unusedVariables false
set_option linter.unusedSimpArgs false
set_option linter.unnecessarySimpa false
namespace Go.Led
open Go.Ev
set_option linter.unusedVariables false
set_option linter.unusedSimpArgs false
/-- The rows behind that of a contact. -/
def behind (l : List Bk) (id : Int) : List Bk := if fnd l id then (l.drop (upos l id)).drop 1 else l.drop (upos l id)
/-- A ledger where so much is booked on a contact. -/
def withM (l : List Bk) (id u0 u1 u2 : Int) : List Bk := if u0 = 0 ∧ u1 = 0 ∧ u2 = 0 then l.take (upos l id) ++ behind l id else l.take (upos l id) ++ (⟨id, u0, u1, u2⟩ :: behind l id)
theorem behind_le (l : List Bk) (id : Int) : (behind l id).length ≤ l.length := by unfold behind; split <;> simp <;> omega
set_option maxHeartbeats 2000000 in
theorem s_with (l : List Bk) (id u0 u1 u2 : Int) (hs : Srt l) (hl : l.length ≤ 1073741824) (t : Tok) (sz : Nat) (hsz : sz = 4 ∨ l = []) :
    EvX Γ 51 [.slice t sz (l.map Bk.e), .int .i64 id, .agg [.int .i64 u0, .int .i64 u1, .int .i64 u2]] (IsN Bk.e 4 (withM l id u0 u1 u2)) := by
  refine EvX_code rfl rfl ?_
  have ha := s_at l id hs (by omega)
  have hu := upos_le l id
  have hb : behind l id = if fnd l id then (l.drop (upos l id)).drop 1 else l.drop (upos l id) := rfl
  have hbl := behind_le l id
  have c2 : ∀ (t1 t2 t : Tok) (s1 s2 : Nat) (h1 : s1 = 4) (h2 : s2 = 4), EvX Γ 65 [.slice t 1 [.slice t1 s1 ((l.take (upos l id)).map Bk.e), .slice t2 s2 ((behind l id).map Bk.e)]] (IsN Bk.e 4 (l.take (upos l id) ++ behind l id)) := fun t1 t2 t s1 s2 h1 h2 => by
    have := s_Concat [(t1, s1, l.take (upos l id)), (t2, s2, behind l id)] (by simp [tot]; omega) (by simp) (by simp [h1, h2]) t
    simpa [E] using this
  have c3 : ∀ (t1 t2 t3 t : Tok) (s1 s2 s3 : Nat) (h1 : s1 = 4) (h2 : s2 = 4) (h3 : s3 = 4), EvX Γ 65 [.slice t 1 [.slice t1 s1 ((l.take (upos l id)).map Bk.e), .slice t2 s2 [.agg [.int .i64 id, .int .i64 u0, .int .i64 u1, .int .i64 u2]], .slice t3 s3 ((behind l id).map Bk.e)]] (IsN Bk.e 4 (l.take (upos l id) ++ (⟨id, u0, u1, u2⟩ :: behind l id))) := fun t1 t2 t3 t s1 s2 s3 h1 h2 h3 => by
    have := s_Concat [(t1, s1, l.take (upos l id)), (t2, s2, [⟨id, u0, u1, u2⟩]), (t3, s3, behind l id)] (by simp [tot]; omega) (by simp) (by simp [h1, h2, h3]) t
    simpa [E, Bk.e] using this
  unfold withM
  have hfu : fnd l id = true → upos l id < l.length := fun hf => by
    unfold fnd at hf
    split at hf
    · rename_i b hb
      exact (List.getElem?_eq_some_iff.mp hb).1
    · cases hf
  generalize behind l id = bh at *
  by_cases hz : u0 = 0 ∧ u1 = 0 ∧ u2 = 0
  all_goals
    cases hf : fnd l id
    all_goals
      rw [hf] at ha hb
      simp only [if_true, if_false, Bool.false_eq_true] at hb
      subst hb
      try have hf' := hfu hf
      repeat' (first
    | (refine I_WS ?_; first
      | (refine I_mov ?_; first
          | refine W_skip rfl ?_
          | refine W_mov (v := .int _ _) rfl rfl rfl ?_
          | refine W_mov (v := .bool _) rfl rfl rfl ?_
          | refine W_mov (v := .slice _ _ _) rfl rfl rfl ?_
          | refine W_mov (v := .agg _) rfl rfl rfl ?_
          | refine W_mov (v := .ptr _ _) rfl rfl rfl ?_
          | refine W_mov (v := .func _ _) rfl rfl rfl ?_
          | refine W_mov (v := .eptr _ _ _ _) rfl rfl rfl ?_
          | refine W_mov (v := .rs _ _ _ _ _) rfl rfl rfl ?_
          | refine W_mov (v := .tuple _) rfl rfl rfl ?_
          | refine W_mov (v := .map _) rfl rfl rfl ?_
          | refine W_mov (v := .str _) rfl rfl rfl ?_
          | refine W_mov (v := .nilptr) rfl rfl rfl ?_)
      | (refine I_load ?_; first
          | refine W_skip rfl ?_
          | refine W_load (agg := false) (d := .int _ _) rfl rfl rfl rfl (by first | exact Nat.zero_le _ | omega) rfl ?_
          | refine W_load (agg := false) (d := .bool _) rfl rfl rfl rfl (by first | exact Nat.zero_le _ | omega) rfl ?_
          | refine W_load (agg := false) (d := .slice _ _ _) rfl rfl rfl rfl (by first | exact Nat.zero_le _ | omega) rfl ?_
          | refine W_load (agg := false) (d := .ptr _ _) rfl rfl rfl rfl (by first | exact Nat.zero_le _ | omega) rfl ?_
          | refine W_load (agg := false) (d := .func _ _) rfl rfl rfl rfl (by first | exact Nat.zero_le _ | omega) rfl ?_
          | refine W_load (agg := true) (d := .agg [_, _, _]) rfl rfl rfl rfl (by first | exact Nat.zero_le _ | omega) rfl ?_
          | refine W_load (agg := true) (d := .agg [_, _, _, _]) rfl rfl rfl rfl (by first | exact Nat.zero_le _ | omega) rfl ?_)
      | (refine I_call ?_; first
          | refine W_skip rfl ?_
          | refine W_call rfl rfl rfl (ha _ _ hsz) rfl rfl ?_
          | (refine W_callN rfl rfl rfl (c2 _ _ _ _ _ rfl rfl) rfl ?_ <;> intro _ _ _ _)
          | (refine W_callN rfl rfl rfl (c3 _ _ _ _ _ _ _ rfl rfl rfl) rfl ?_ <;> intro _ _ _ _))
      | (refine I_extract ?_; first
          | refine W_extract (d := .int _ _) rfl rfl rfl rfl ?_
          | refine W_extract (d := .bool _) rfl rfl rfl rfl ?_
          | refine W_extract (d := .slice _ _ _) rfl rfl rfl rfl ?_
          | refine W_extract (d := .agg _) rfl rfl rfl rfl ?_
          | refine W_extract (d := .ptr _ _) rfl rfl rfl rfl ?_
          | refine W_extract (d := .func _ _) rfl rfl rfl rfl ?_
          | refine W_skip rfl ?_)
      | (refine I_build ?_; first
          | refine W_build (cs := [_, _, _]) rfl rfl rfl ?_
          | refine W_build (cs := [_, _, _, _]) rfl rfl rfl ?_
          | refine W_skip rfl ?_)
      | (refine I_box ?_; first
          | refine W_boxA rfl rfl rfl rfl rfl ?_
          | refine W_box1 (v := .slice _ _ _) rfl rfl rfl rfl rfl ?_
          | refine W_box1 (v := .int _ _) rfl rfl rfl rfl rfl ?_
          | refine W_box1 (v := .bool _) rfl rfl rfl rfl rfl ?_
          | refine W_box1 (v := .ptr _ _) rfl rfl rfl rfl rfl ?_
          | refine W_skip rfl ?_)
      | (refine W_eqlP rfl rfl rfl rfl rfl rfl (eqAt3 _ _ _ _ _ _) ?_ ?_ <;> intro hq)
      | (refine W_eqlP rfl rfl rfl rfl rfl rfl (eqAt4 _ _ _ _ _ _ _ _) ?_ ?_ <;> intro hq)
      | (refine W_neqP rfl rfl rfl rfl rfl rfl (eqAt3 _ _ _ _ _ _) ?_ ?_ <;> intro hq)
      | (refine W_neqP rfl rfl rfl rfl rfl rfl (eqAt4 _ _ _ _ _ _ _ _) ?_ ?_ <;> intro hq)
      | (refine W_eqlP rfl rfl rfl rfl rfl rfl rfl ?_ ?_ <;> intro _)
      | (refine W_neqP rfl rfl rfl rfl rfl rfl rfl ?_ ?_ <;> intro _)
      | refine W_bsliceS (ds := [.slice _ _ _]) (ys := [.slice _ _ _]) rfl rfl rfl rfl (by decide) rfl ?_
      | refine W_bsliceS (ds := [.slice _ _ _, .slice _ _ _]) (ys := [.slice _ _ _, .slice _ _ _]) rfl rfl rfl rfl (by decide) rfl ?_
      | refine W_bsliceS (ds := [.slice _ _ _, .slice _ _ _, .slice _ _ _]) (ys := [.slice _ _ _, .slice _ _ _, .slice _ _ _]) rfl rfl rfl rfl (by decide) rfl ?_
      | refine W_bslice (ys := []) rfl rfl rfl (by decide) rfl ?_
      | refine W_bslice (ys := [_]) rfl rfl rfl (by decide) rfl ?_
      | refine W_bslice (ys := [_, _]) rfl rfl rfl (by decide) rfl ?_
      | refine W_bslice (ys := [_, _, _]) rfl rfl rfl (by decide) rfl ?_
      | (refine W_sliceLoN rfl rfl (by first | exact .inl rfl | assumption) rfl (by first | omega | (simp; omega)) rfl ?_ <;> intro _)
      | (refine W_sliceHiN rfl rfl (by first | exact .inl rfl | assumption) rfl (by first | omega | (simp; omega)) rfl ?_ <;> intro _)
      | (refine W_sliceLo rfl rfl (by first | exact .inl rfl | assumption) rfl (by first | omega | (simp; omega)) rfl ?_ <;> intro _)
      | (refine W_sliceHi rfl rfl (by first | exact .inl rfl | assumption) rfl (by first | omega | (simp; omega)) rfl ?_ <;> intro _)
      | refine W_skip rfl ?_
      | refine WS_nil ?_)
    | refine WC_seq ?_
    | refine WC_opsS ?_
    | refine WC_drawS ?_
    | refine WC_skip ?_
    | refine WC_condT rfl ?_
    | refine WC_condF rfl ?_
    | refine WC_ret ?_
    | refine okF_intro rfl ?_)
  all_goals
    rename_i hs' ht'
    first
    | (rw [decide_eq_true_eq] at hq; exact absurd hq hz)
    | (rw [decide_eq_false_iff_not] at hq; exact absurd hz hq)
    | exact finX_D (by simp) rfl ht' hs' (by rw [if_pos hz])
    | exact finX_D (by simp) rfl ht' hs' (by rw [if_neg hz])
end Go.Led
