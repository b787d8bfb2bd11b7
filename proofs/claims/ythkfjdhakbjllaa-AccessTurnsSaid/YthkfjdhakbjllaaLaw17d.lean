/- The law AccessTurns, joined: it returns true at all arguments and writes nothing that was there. No condition. -/
import Derived.Test.YthkfjdhakbjllaaLaw17c
namespace Go.Proofs.Ythkfjdhakbjllaa
open Go.RowKit Go.Shelf
set_option linter.unusedVariables false
set_option linter.unusedSimpArgs false

theorem near1 {ix : List Int} (h : insideB 1 [] ix = true) : ∀ y ∈ ix, -100000 ≤ y ∧ y ≤ 100000 := (insideB_true h).1

theorem fromS_len (ps ix : List Int) : (fromS ps ix).length = ps.length := by simp [fromS]

theorem Permute_w (k b e : Int) (p : Option Addr) (c : Nat) (s : List Int) (st sp md : Int) (q : Option Addr) (d : Nat) (perm : List Int) (m : Nat) (hl : s.length ≤ 16) (hk : k ≠ 1) (hlp : perm.length = s.length) (hm : m ≤ 16) (hy : ∀ y ∈ s, -1000000000 ≤ y ∧ y ≤ 1000000000) :
    Hid (∀ W, Ints W p s → Ints W q perm → (∀ x ∈ perm, 0 ≤ x ∧ x < (m : Int)) → Calls Try.prog 72 #[.agg #[.int .i64 k, .int .i64 b, .int .i64 e, .slice p s.length c, .int .i64 st, .int .i64 sp, .int .i64 md], .slice q perm.length d, .int .i64 m] W (MovedTo W k b e (permF perm s (List.replicate m 0)) st sp md)) := by
  intro W a b' hr
  have := Permute_any k b e p c s st sp md q d perm m W a (by omega) hk b' hlp (by omega) (by omega) hr (fun y h => by have := hy y h; omega)
  have e1 : resE k e (firstS k e st) = e := by unfold resE firstS; split <;> rfl
  have e2 : resS k st (firstS k e st) = st := by unfold resS firstS; split <;> rfl
  rw [e1, e2] at this
  exact this

theorem RPermute_w (k b e : Int) (p : Option Addr) (c : Nat) (s : List Int) (st sp md : Int) (q : Option Addr) (d : Nat) (perm : List Int) (m : Nat) (hl : s.length ≤ 16) (hk : k ≠ 1) (hlp : perm.length = s.length) (hm : m ≤ 16) (hy : ∀ y ∈ s, -1000000000 ≤ y ∧ y ≤ 1000000000) (he : -1000000000 ≤ e ∧ e ≤ 1000000000) (hst : -1000000000 ≤ st ∧ st ≤ 1000000000) (hr : ∀ x ∈ perm, 0 ≤ x ∧ x < (m : Int)) :
    Hid (∀ W, Ints W p s → Ints W q perm → Calls Try.prog 73 #[.agg #[.int .i64 k, .int .i64 b, .int .i64 e, .slice p s.length c, .int .i64 st, .int .i64 sp, .int .i64 md], .slice q perm.length d, .int .i64 m] W (MovedTo W k b e (permF perm s (List.replicate m 0)) st sp md)) := by
  intro W a b'
  rw [permF_ref perm s m hr]
  exact RPermute_any k b e p c s st sp md q d perm m W a b' hk hlp (by omega) (by omega) hy (by omega) (by omega) (by omega) (by omega)

set_option maxHeartbeats 1000000 in
theorem AccessTurns_law (k b e : Int) (p : Option Addr) (c : Nat) (s : List Int) (st sp md : Int) (q : Option Addr) (d : Nat) (perm : List Int) (r : Option Addr) (f : Nat) (ix : List Int) (w : World) (h : Ints w p s) (hk : I64 k) (hb : I64 b) (he : I64 e) (hst : I64 st) (hsp : I64 sp) (hmd : I64 md) (h' : Ints w q perm) (h'' : Ints w r ix) :
    Calls Try.prog 17 #[.agg #[.int .i64 k, .int .i64 b, .int .i64 e, .slice p s.length c, .int .i64 st, .int .i64 sp, .int .i64 md], .slice q perm.length d, .slice r ix.length f] w fun e' w' => e' = .returned (.bool true) ∧ Below w.heap.size w w' := by
  cases hg : goodB k b e s st sp md with
  | false => exact Turns_bad k b e p c s st sp md q d perm r f ix w h h' h'' hg
  | true =>
    by_cases k1 : k = 1
    · by_cases h16 : 16 < perm.length
      · exact Turns_long_k1 k b e p c s st sp md q d perm r f ix w h h' h'' hg k1 h16
      by_cases hx16 : 16 < ix.length
      · exact Turns_wide_k1 k b e p c s st sp md q d perm r f ix w h h' h'' hg k1 h16 hx16
      cases hin : insideB 1 [] ix with
      | false => exact Turns_far_k1 k b e p c s st sp md q d perm r f ix w h h' h'' hg k1 h16 hx16 hin
      | true => exact Turns_fill k b e p c s st sp md q d perm r f ix w h h' h'' hg k1 h16 hx16 hin
    · by_cases hl : perm.length = s.length
      · by_cases h16 : 16 < perm.length
        · exact Turns_long_n k b e p c s st sp md q d perm r f ix w h h' h'' hg k1 hl h16
        by_cases hx16 : 16 < ix.length
        · exact Turns_wide_n k b e p c s st sp md q d perm r f ix w h h' h'' hg k1 hl h16 hx16
        by_cases hr : ∀ x ∈ perm, 0 ≤ x ∧ x < (ix.length : Int)
        · cases hin : insideB 1 [] ix with
          | false => exact Turns_far_n k b e p c s st sp md q d perm r f ix w h h' h'' hg k1 hl h16 hx16 hin
          | true =>
            obtain ⟨l1, l2, l3, l4, l5, l6, l7, l8⟩ := goodB_true hg
            have hx := near1 hin
            obtain ⟨hD, hf⟩ := dot_perm perm s ix hl (by omega) (by omega) hr l2 hx
            have hd := dot_bd s (fromS perm ix) 0 l2 hf 0 (by omega) (by omega) (by omega) (by omega)
            obtain ⟨D, hDe⟩ : ∃ D, dotW s (fromS perm ix) 0 = D := ⟨_, rfl⟩
            rw [hDe] at hD hd
            have hYl : (permF perm s (List.replicate ix.length 0)).length ≤ 16 := by rw [permF_len, List.length_replicate]; omega
            have HP := Permute_w k b e p c s st sp md q d perm ix.length (by omega) k1 hl (by omega) l2
            have HRP := RPermute_w k b e p c s st sp md q d perm ix.length (by omega) k1 hl (by omega) l2 l4 l5 hr
            obtain ⟨Y, hY⟩ : ∃ Y, permF perm s (List.replicate ix.length 0) = Y := ⟨_, rfl⟩
            rw [hY] at hYl hD HP HRP
            by_cases k2 : k = 2
            · subst k2
              refine Turns_main 2 b e p c s st sp md q d perm r f ix w h h' h'' hg k1 hl h16 hx16 hin Y (e + D) HP HRP
                (fun W pp cp a b' _ => AccAt_2 b e pp cp Y st sp md r f ix D hD W a b' (by omega) (by omega) (by omega) (by omega))
                (fun W pf cf a b' => ?_)
              have := RAt_2 b e p c s st sp md pf cf (fromS perm ix) D hDe W a b' (by omega) (by omega) (by omega)
              rw [fromS_len] at this
              exact this
            · have k3 : k = 3 := by
                by_cases k3 : k = 3
                · exact k3
                · simp [kindB, k1, k2, k3] at l8
              subst k3
              have hm : 0 < md := by simpa [kindB] using l8
              have hM0 := Int.emod_nonneg (st + D) (show md ≠ 0 by omega)
              have hM1 := Int.emod_lt_of_pos (st + D) hm
              have hX := mul_bd (A := 1000000000) (B := 1000000000) (by omega) (by omega) l6 (show -1000000000 ≤ (st + D) % md ∧ (st + D) % md ≤ 1000000000 by omega)
              refine Turns_main 3 b e p c s st sp md q d perm r f ix w h h' h'' hg k1 hl h16 hx16 hin Y (e + sp * ((st + D) % md)) HP HRP
                (fun W pp cp a b' _ => AccAt_3 b e pp cp Y st sp md r f ix D hD W a b' (by omega) (by omega) (by omega) (by omega) _ _ (by unfold modS; rw [if_neg (by omega)]) rfl (by omega) ⟨by omega, by omega⟩)
                (fun W pf cf a b' => ?_)
              by_cases hn : (st + D).tmod md < 0
              · have := RAt_3n b e p c s st sp md pf cf (fromS perm ix) D hDe W a b' (by omega) (by omega) (by omega) _ _ hm (by omega) rfl rfl (by omega) hn
                rw [fromS_len] at this
                exact this
              · have := RAt_3p b e p c s st sp md pf cf (fromS perm ix) D hDe W a b' (by omega) (by omega) (by omega) _ _ hm (by omega) rfl rfl (by omega) hn
                rw [fromS_len] at this
                exact this
        · exact Turns_out_n k b e p c s st sp md q d perm r f ix w h h' h'' hg k1 hl h16 hx16 hr
      · exact Turns_len k b e p c s st sp md q d perm r f ix w h h' h'' hg k1 hl
end Go.Proofs.Ythkfjdhakbjllaa
