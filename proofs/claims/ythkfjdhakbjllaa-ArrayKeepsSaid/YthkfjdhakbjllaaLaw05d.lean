/- The law ArrayEquals, walked: it returns true at all arguments and writes nothing that was there. Condition: the third argument's length is within its capacity, as of every slice. -/
import Derived.Test.YthkfjdhakbjllaaLaw05b
namespace Go.Proofs.Ythkfjdhakbjllaa
open Go.RowKit Go.Shelf
set_option linter.unusedVariables false
set_option linter.unusedSimpArgs false

theorem RefCopy_ints (p q : Option Addr) (c f : Nat) (s d : List Int) (w : World) (h : Ints w p s) (h' : Ints w q d) (hl : s.length ≤ 1099511627776) (hl' : d.length ≤ 1099511627776) :
    Calls Try.prog 43 #[.agg #[.slice p s.length c, .slice q d.length f]] w fun e w' =>
      (∃ p' c' q' f', e = .returned (.agg #[.slice p' s.length c', .slice q' d.length f']) ∧ Ints w' p' s ∧ Ints w' q' d) ∧ Below w.heap.size w w' := by
  refine (RefCopy_any p q c f s d w h h' hl hl').mono ?_
  rintro e w' ⟨⟨p', c', q', f', he, h1, h2⟩, hb⟩
  exact ⟨⟨p', c', q', f', he, h1.ints' h, h2.ints' h'⟩, hb⟩
theorem RefAEqual_one (l : List Int) (r : Bool) (hr : aeqS [(l.length : Int)] l [(l.length : Int)] l = r) (p q p' q' : Option Addr) (c f c' f' : Nat) (w : World) (h1 : Ints w p [(l.length : Int)]) (h2 : Ints w q l) (h3 : Ints w p' [(l.length : Int)]) (h4 : Ints w q' l) :
    Calls Try.prog 38 #[.agg #[.slice p 1 c, .slice q l.length f], .agg #[.slice p' 1 c', .slice q' l.length f']] w fun z w' => z = .returned (.bool r) ∧ Below w.heap.size w w' :=
  RefAEqual_is [(l.length : Int)] l [(l.length : Int)] l r hr p q p' q' c f c' f' w h1 h2 h3 h4
theorem ArrayScalar_one (n : Int) (w : World) (hn : I64 n) :
    Calls Try.prog 44 #[.int .i64 n] w fun e w' => (∃ q f, e = .returned (.agg #[.slice none 0 0, .slice q 1 f]) ∧ Ints w' q [n]) ∧ Below w.heap.size w w' := ArrayScalar_any n w hn
theorem RefAEqual_sc (x : Int) (p q p' q' : Option Addr) (c f c' f' : Nat) (w : World) (h2 : Ints w q [x]) (h4 : Ints w q' [x]) :
    Calls Try.prog 38 #[.agg #[.slice p 0 c, .slice q 1 f], .agg #[.slice p' 0 c', .slice q' 1 f']] w fun z w' => z = .returned (.bool true) ∧ Below w.heap.size w w' :=
  RefAEqual_is [] [x] [] [x] true (aeqS_self _ _) p q p' q' c f c' f' w ⟨.inl rfl, by simp, by simp⟩ h2 ⟨.inl rfl, by simp, by simp⟩ h4
theorem ints_head {w : World} {p : Option Addr} {l : List Int} {x : Int} (h : Ints w p l) (hx : 0 < l.length ∧ nth l 0 = x) : Ints w p [x] := by
  obtain ⟨h0, rfl⟩ := hx
  obtain ⟨b, off, rfl, hlt, hc⟩ := h.at h0
  refine ⟨.inr ⟨b, off, rfl, hlt, fun i u hu => ?_⟩, by simpa using h.nth h0, by simp⟩
  match i, hu with
  | 0, hu =>
    simp at hu
    subst hu
    exact hc

set_option maxRecDepth 100000 in
set_option maxHeartbeats 8000000 in
theorem ArrayEquals_some (p : Option Addr) (c : Nat) (s : List Int) (q : Option Addr) (f : Nat) (d : List Int) (p' : Option Addr) (c' : Nat) (t : List Int) (q' : Option Addr) (f' : Nat) (e : List Int) (r : Option Addr) (g : Nat) (l : List Int) (w : World)
    (h1 : Ints w p s) (h2 : Ints w q d) (h3 : Ints w p' t) (h4 : Ints w q' e) (h5 : Ints w r l) (hcap : l.length ≤ g) (f1 : fewS s d 1000 = true) (f2 : fewS t e 1000 = true) (hl : ¬ 1000 < l.length) (hl0 : 0 < l.length) :
    Calls Try.prog 9 #[.agg #[.slice p s.length c, .slice q d.length f], .agg #[.slice p' t.length c', .slice q' e.length f'], .slice r l.length g] w fun z w' => z = .returned (.bool true) ∧ Below w.heap.size w w' := by
  obtain ⟨l1, l2⟩ := fewS_bd f1
  have hl1 : s.length ≤ 1099511627776 := by omega
  have hl2 : d.length ≤ 1099511627776 := by omega
  have Hf1 := Lib.hid f1
  have Hf2 := Lib.hid f2
  have Hself := Lib.hid (aeqS_self s d)
  obtain ⟨z1, hz1⟩ : ∃ z1, aeqS [(l.length : Int)] l [(l.length : Int)] l = z1 := ⟨_, rfl⟩
  have hz1t : z1 = true := by rw [← hz1]; exact aeqS_self _ _
  subst hz1t
  have Hz1 := Lib.hid hz1
  have hlen : ∀ x ∈ [(l.length : Int)], I64 x := by
    intro x hx
    simp at hx
    subst hx
    exact ⟨by omega, by omega⟩
  have Hlen := Lib.hid hlen
  obtain ⟨z, hz⟩ : ∃ z, aeqS s d t e = z := ⟨_, rfl⟩
  have Hz := Lib.hid hz
  have hzz : (z == z) = true := by simp
  have hl0b : ((l.length : Int) == 0) = false := by rw [beq_eq_false_iff_ne]; omega
  have hi0 : (0 : Int) < (l.length : Int) := by omega
  have hg1 : (1 : Int) ≤ (g : Int) := by omega
  have hg2 : 1 ≤ g := by omega
  obtain ⟨bl, ol, rfl, hlt, hcl⟩ := h5.at hl0
  obtain ⟨x, hx⟩ : ∃ x, nth l 0 = x := ⟨_, rfl⟩
  have Hx := Lib.hid (hx ▸ h5.nth hl0)
  have Hx1 := Lib.hid (And.intro hl0 hx)
  rw [hx, Nat.add_zero] at hcl
  clear hx
  clear f1 f2 hz1 hlen hz
  go_enter Try.func9, Try.ntmps9
  go_wp2_with fail
  refine (awake05 _).mono ?_
  rintro e w' ⟨rfl, hb1⟩
  have A := ((At2.new w _ (.slice p s.length c) (.slice q d.length f) 43 rfl).keep (below_alloc _ (.cells #[.slice p' t.length c', .slice q' e.length f'] 43))).keep hb1
  have B := (At2.new (w.alloc (.cells #[.slice p s.length c, .slice q d.length f] 43)) (w.heap.size + 1) (.slice p' t.length c') (.slice q' e.length f') 43 (by simp)).keep hb1
  have hb := below_2 hb1
  have hA0 := A.c0
  have hA1 := A.c1
  have hB0 := B.c0
  have hB1 := B.c1
  clear hb1
  go_wp2_with fail
  refine (RefFew_is s d 1000 true Hf1.out _ _ _ _ _ (h1.keep hb) (h2.keep hb)).mono ?_
  rintro e w' ⟨rfl, hb2⟩
  have A := A.keep hb2
  have hA0 := A.c0
  have hA1 := A.c1
  have B := B.keep hb2
  have hB0 := B.c0
  have hB1 := B.c1
  have hb := below_t hb hb2
  clear hb2
  go_wp2_with fail
  refine (RefFew_is t e 1000 true Hf2.out _ _ _ _ _ (h3.keep hb) (h4.keep hb)).mono ?_
  rintro e w' ⟨rfl, hb3⟩
  have A := A.keep hb3
  have hA0 := A.c0
  have hA1 := A.c1
  have B := B.keep hb3
  have hB0 := B.c0
  have hB1 := B.c1
  have hb := below_t hb hb3
  clear hb3
  go_wp2_with fail
  refine (ArrayVector_any _ _ l _ (h5.keep hb) (by omega)).mono ?_
  rintro e0 wv ⟨⟨pv, cv, qv, fv, rfl, hv1, hv2⟩, hb4⟩
  have A := A.keep hb4
  have hA0 := A.c0
  have hA1 := A.c1
  have B := B.keep hb4
  have hB0 := B.c0
  have hB1 := B.c1
  have hb := below_t hb hb4
  clear hb4
  clear hA0 hA1 hB0 hB1
  have V := At2.new wv _ (.slice pv 1 cv) (.slice qv l.length fv) 43 rfl
  go_wp2_with fail
  have hKS : Keeps (fun w' => (w.heap.size < w'.heap.size ∧ w'.cell? ⟨w.heap.size, 0, none⟩ = some (.slice p s.length c) ∧ w'.cell? ⟨w.heap.size, 1, none⟩ = some (.slice q d.length f)) ∧ (w.heap.size + 1 < w'.heap.size ∧ w'.cell? ⟨w.heap.size + 1, 0, none⟩ = some (.slice p' t.length c') ∧ w'.cell? ⟨w.heap.size + 1, 1, none⟩ = some (.slice q' e.length f')) ∧ (wv.heap.size < w'.heap.size ∧ w'.cell? ⟨wv.heap.size, 0, none⟩ = some (.slice pv 1 cv) ∧ w'.cell? ⟨wv.heap.size, 1, none⟩ = some (.slice qv l.length fv)) ∧ Ints w' p s ∧ Ints w' q d ∧ Ints w' p' t ∧ Ints w' q' e ∧ Ints w' (some ⟨bl, ol, none⟩) l ∧ Ints w' pv [(l.length : Int)] ∧ Ints w' qv l ∧ (bl < w'.heap.size ∧ w'.cell? ⟨bl, ol, none⟩ = some (.int .i64 x)) ∧ Below w.heap.size w w') := (keeps_cells _ _ _).and ((keeps_cells _ _ _).and ((keeps_cells _ _ _).and ((keeps_ints _ _).and ((keeps_ints _ _).and ((keeps_ints _ _).and ((keeps_ints _ _).and ((keeps_ints _ _).and ((keeps_ints _ _).and ((keeps_ints _ _).and ((keeps_cell _ _ _).and (keeps_below _)))))))))))
  have hbv := below_alloc wv (.cells #[.slice pv 1 cv, .slice qv l.length fv] 43)
  have A := A.keep hbv
  have B := B.keep hbv
  have hv1 := hv1.keep hbv
  have hv2 := hv2.keep hbv
  have hb := below_t hb hbv
  have hS := hKS (wv.alloc (.cells #[.slice pv 1 cv, .slice qv l.length fv] 43)) _ ⟨⟨A.lt, A.c0, A.c1⟩, ⟨B.lt, B.c0, B.c1⟩, ⟨V.lt, V.c0, V.c1⟩, h1.keep hb, h2.keep hb, h3.keep hb, h4.keep hb, h5.keep hb, hv1, hv2, ⟨Nat.lt_of_lt_of_le hlt hb.size, (hb.cell (p := ⟨bl, ol, none⟩) hlt).trans hcl⟩, hb⟩ (Below.refl _ _)
  clear A B V hv1 hv2 hb hbv
  go_region_held3 (fun w' => (w.heap.size < w'.heap.size ∧ w'.cell? ⟨w.heap.size, 0, none⟩ = some (.slice p s.length c) ∧ w'.cell? ⟨w.heap.size, 1, none⟩ = some (.slice q d.length f)) ∧ (w.heap.size + 1 < w'.heap.size ∧ w'.cell? ⟨w.heap.size + 1, 0, none⟩ = some (.slice p' t.length c') ∧ w'.cell? ⟨w.heap.size + 1, 1, none⟩ = some (.slice q' e.length f')) ∧ (wv.heap.size < w'.heap.size ∧ w'.cell? ⟨wv.heap.size, 0, none⟩ = some (.slice pv 1 cv) ∧ w'.cell? ⟨wv.heap.size, 1, none⟩ = some (.slice qv l.length fv)) ∧ Ints w' p s ∧ Ints w' q d ∧ Ints w' p' t ∧ Ints w' q' e ∧ Ints w' (some ⟨bl, ol, none⟩) l ∧ Ints w' pv [(l.length : Int)] ∧ Ints w' qv l ∧ (bl < w'.heap.size ∧ w'.cell? ⟨bl, ol, none⟩ = some (.int .i64 x)) ∧ Below w.heap.size w w') (exact hKS _ _ (by assumption) (by first | assumption | (go_grown; done) | (refine from_drew ?_; go_grown; done))) (first
    | (go_at_call 42; (with_reducible refine (ArrayEqual_is s d t e z Hz.out _ _ _ _ _ _ _ _ _ ?_ ?_ ?_ ?_).mono ?_); ((go_split_ands; assumption)); ((go_split_ands; assumption)); ((go_split_ands; assumption)); ((go_split_ands; assumption)); rintro e6 w6 ⟨rfl, hb6⟩)
    | (go_at_call 38; (with_reducible refine (RefAEqual_is s d t e z Hz.out _ _ _ _ _ _ _ _ _ ?_ ?_ ?_ ?_).mono ?_); ((go_split_ands; assumption)); ((go_split_ands; assumption)); ((go_split_ands; assumption)); ((go_split_ands; assumption)); rintro e7 w7 ⟨rfl, hb7⟩)
    | (go_at_call 43; (with_reducible refine (RefCopy_ints p q c f s d _ ?_ ?_ hl1 hl2).mono ?_); ((go_split_ands; assumption)); ((go_split_ands; assumption)); rintro e8 w8 ⟨⟨pk, ck, qk, fk, rfl, hk1, hk2⟩, hb8⟩)
    | (go_at_call 42; (with_reducible refine (ArrayEqual_is s d s d true Hself.out _ _ _ _ _ _ _ _ _ ?_ ?_ ?_ ?_).mono ?_); ((go_split_ands; assumption)); ((go_split_ands; assumption)); ((go_split_ands; assumption)); ((go_split_ands; assumption)); rintro e9 w9 ⟨rfl, hb9⟩)
    | (go_at_call 38; (with_reducible refine (RefAEqual_one l true Hz1.out _ _ _ _ _ _ _ _ _ ?_ ?_ ?_ ?_).mono ?_); ((go_split_ands; assumption)); ((go_split_ands; assumption)); (first | exact (Ints.lit _ _ [(l.length : Int)] _ (by simp) Hlen.out (by simp)).keep ((Below.refl _ _).drew) | exact Ints.lit _ _ [(l.length : Int)] _ (by simp) Hlen.out (by simp)); ((go_split_ands; assumption)); rintro ea wa ⟨rfl, hba⟩)
    | (go_at_call 44; (with_reducible refine (ArrayScalar_one x _ Hx.out).mono ?_); rintro eb wb ⟨⟨q8, f8, rfl, hs8⟩, hbb⟩)
    | (go_at_call 38; (with_reducible refine (RefAEqual_sc x _ _ _ _ _ _ _ _ _ ?_ ?_).mono ?_); ((go_split_ands; assumption)); (go_split_ands; refine ints_head (by assumption) Hx1.out); rintro ec wc ⟨rfl, hbc⟩))
  all_goals
    go_wp2_with fail
    go_ret
    refine ⟨rfl, ?_⟩
    go_split_ands
    assumption
end Go.Proofs.Ythkfjdhakbjllaa
