/- The law ArrayEquals, walked: the case of no numbers, and the whole. Condition: the third argument's length is within its capacity, as of every slice. -/
import Derived.Test.YthkfjdhakbjllaaLaw05d
namespace Go.Proofs.Ythkfjdhakbjllaa
open Go.RowKit Go.Shelf
set_option linter.unusedVariables false
set_option linter.unusedSimpArgs false

set_option maxRecDepth 100000 in
set_option maxHeartbeats 4000000 in
theorem ArrayEquals_none (p : Option Addr) (c : Nat) (s : List Int) (q : Option Addr) (f : Nat) (d : List Int) (p' : Option Addr) (c' : Nat) (t : List Int) (q' : Option Addr) (f' : Nat) (e : List Int) (r : Option Addr) (g : Nat) (l : List Int) (w : World)
    (h1 : Ints w p s) (h2 : Ints w q d) (h3 : Ints w p' t) (h4 : Ints w q' e) (h5 : Ints w r l) (hcap : l.length ≤ g) (f1 : fewS s d 1000 = true) (f2 : fewS t e 1000 = true) (hl : ¬ 1000 < l.length) (hl0 : l.length = 0) :
    Calls Try.prog 9 #[.agg #[.slice p s.length c, .slice q d.length f], .agg #[.slice p' t.length c', .slice q' e.length f'], .slice r l.length g] w fun z w' => z = .returned (.bool true) ∧ Below w.heap.size w w' := by
  obtain ⟨l1, l2⟩ := fewS_bd f1
  have hl1 : s.length ≤ 1099511627776 := by omega
  have hl2 : d.length ≤ 1099511627776 := by omega
  have Hf1 := Lib.hid f1
  have Hf2 := Lib.hid f2
  have Hself := Lib.hid (aeqS_self s d)
  obtain ⟨z1, hz1⟩ : ∃ z1, aeqS [(l.length : Int)] l [(l.length : Int)] l = z1 := ⟨_, rfl⟩
  have hz1t : z1 = true := by rw [← hz1]; exact aeqS_self _ _
  subst hz1t
  have Hz1 := Lib.hid hz1
  have hlen : ∀ x ∈ [(l.length : Int)], I64 x := by
    intro x hx
    simp at hx
    subst hx
    exact ⟨by omega, by omega⟩
  have Hlen := Lib.hid hlen
  obtain ⟨z, hz⟩ : ∃ z, aeqS s d t e = z := ⟨_, rfl⟩
  have Hz := Lib.hid hz
  have hzz : (z == z) = true := by simp
  have hl0b : ((l.length : Int) == 0) = true := by rw [beq_iff_eq]; omega
  have Hl0 := Lib.hid hl0
  clear hl0
  clear f1 f2 hz1 hlen hz
  go_enter Try.func9, Try.ntmps9
  go_wp2_with fail
  refine (awake05 _).mono ?_
  rintro e w' ⟨rfl, hb1⟩
  have A := ((At2.new w _ (.slice p s.length c) (.slice q d.length f) 43 rfl).keep (below_alloc _ (.cells #[.slice p' t.length c', .slice q' e.length f'] 43))).keep hb1
  have B := (At2.new (w.alloc (.cells #[.slice p s.length c, .slice q d.length f] 43)) (w.heap.size + 1) (.slice p' t.length c') (.slice q' e.length f') 43 (by simp)).keep hb1
  have hb := below_2 hb1
  have hA0 := A.c0
  have hA1 := A.c1
  have hB0 := B.c0
  have hB1 := B.c1
  clear hb1
  go_wp2_with fail
  refine (RefFew_is s d 1000 true Hf1.out _ _ _ _ _ (h1.keep hb) (h2.keep hb)).mono ?_
  rintro e w' ⟨rfl, hb2⟩
  have A := A.keep hb2
  have hA0 := A.c0
  have hA1 := A.c1
  have B := B.keep hb2
  have hB0 := B.c0
  have hB1 := B.c1
  have hb := below_t hb hb2
  clear hb2
  go_wp2_with fail
  refine (RefFew_is t e 1000 true Hf2.out _ _ _ _ _ (h3.keep hb) (h4.keep hb)).mono ?_
  rintro e w' ⟨rfl, hb3⟩
  have A := A.keep hb3
  have hA0 := A.c0
  have hA1 := A.c1
  have B := B.keep hb3
  have hB0 := B.c0
  have hB1 := B.c1
  have hb := below_t hb hb3
  clear hb3
  go_wp2_with fail
  refine (ArrayVector_any _ _ l _ (h5.keep hb) (by omega)).mono ?_
  rintro e0 wv ⟨⟨pv, cv, qv, fv, rfl, hv1, hv2⟩, hb4⟩
  have A := A.keep hb4
  have hA0 := A.c0
  have hA1 := A.c1
  have B := B.keep hb4
  have hB0 := B.c0
  have hB1 := B.c1
  have hb := below_t hb hb4
  clear hb4
  clear hA0 hA1 hB0 hB1
  have V := At2.new wv _ (.slice pv 1 cv) (.slice qv l.length fv) 43 rfl
  go_wp2_with fail
  have hKS : Keeps (fun w' => (w.heap.size < w'.heap.size ∧ w'.cell? ⟨w.heap.size, 0, none⟩ = some (.slice p s.length c) ∧ w'.cell? ⟨w.heap.size, 1, none⟩ = some (.slice q d.length f)) ∧ (w.heap.size + 1 < w'.heap.size ∧ w'.cell? ⟨w.heap.size + 1, 0, none⟩ = some (.slice p' t.length c') ∧ w'.cell? ⟨w.heap.size + 1, 1, none⟩ = some (.slice q' e.length f')) ∧ (wv.heap.size < w'.heap.size ∧ w'.cell? ⟨wv.heap.size, 0, none⟩ = some (.slice pv 1 cv) ∧ w'.cell? ⟨wv.heap.size, 1, none⟩ = some (.slice qv l.length fv)) ∧ Ints w' p s ∧ Ints w' q d ∧ Ints w' p' t ∧ Ints w' q' e ∧ Ints w' r l ∧ Ints w' pv [(l.length : Int)] ∧ Ints w' qv l ∧ Below w.heap.size w w') := (keeps_cells _ _ _).and ((keeps_cells _ _ _).and ((keeps_cells _ _ _).and ((keeps_ints _ _).and ((keeps_ints _ _).and ((keeps_ints _ _).and ((keeps_ints _ _).and ((keeps_ints _ _).and ((keeps_ints _ _).and ((keeps_ints _ _).and (keeps_below _))))))))))
  have hbv := below_alloc wv (.cells #[.slice pv 1 cv, .slice qv l.length fv] 43)
  have A := A.keep hbv
  have B := B.keep hbv
  have hv1 := hv1.keep hbv
  have hv2 := hv2.keep hbv
  have hb := below_t hb hbv
  have hS := hKS (wv.alloc (.cells #[.slice pv 1 cv, .slice qv l.length fv] 43)) _ ⟨⟨A.lt, A.c0, A.c1⟩, ⟨B.lt, B.c0, B.c1⟩, ⟨V.lt, V.c0, V.c1⟩, h1.keep hb, h2.keep hb, h3.keep hb, h4.keep hb, h5.keep hb, hv1, hv2, hb⟩ (Below.refl _ _)
  clear A B V hv1 hv2 hb hbv
  refine wp_region_noPanic ?_
  refine wp_region_held_drew (S := (fun w' => (w.heap.size < w'.heap.size ∧ w'.cell? ⟨w.heap.size, 0, none⟩ = some (.slice p s.length c) ∧ w'.cell? ⟨w.heap.size, 1, none⟩ = some (.slice q d.length f)) ∧ (w.heap.size + 1 < w'.heap.size ∧ w'.cell? ⟨w.heap.size + 1, 0, none⟩ = some (.slice p' t.length c') ∧ w'.cell? ⟨w.heap.size + 1, 1, none⟩ = some (.slice q' e.length f')) ∧ (wv.heap.size < w'.heap.size ∧ w'.cell? ⟨wv.heap.size, 0, none⟩ = some (.slice pv 1 cv) ∧ w'.cell? ⟨wv.heap.size, 1, none⟩ = some (.slice qv l.length fv)) ∧ Ints w' p s ∧ Ints w' q d ∧ Ints w' p' t ∧ Ints w' q' e ∧ Ints w' r l ∧ Ints w' pv [(l.length : Int)] ∧ Ints w' qv l ∧ Below w.heap.size w w')) (by kernel_rfl) ?_ (fun hHeld => ?_)
  · (try dsimp only); exact hKS _ _ (by first | exact hHeld | exact hS) (by first | assumption | (go_grown; done) | (refine from_drew ?_; go_grown; done))
  refine takeH 0 (some 28) (v := ?_) rfl rfl (by kernel_rfl) (by kernel_rfl) (by kernel_rfl) (by rfl) ?_ (by exact hHeld) ?_
  rotate_left
  · intro w hSw; (try dsimp only at hSw); go_simp; try (with_reducible rfl)
  try simp only [Act.put, List.setIfInBounds_toArray, List.set_cons_zero, List.set_cons_succ]
  refine takeH 1 (some 29) (v := ?_) rfl rfl (by kernel_rfl) (by kernel_rfl) (by kernel_rfl) (by rfl) ?_ (by exact hHeld) ?_
  rotate_left
  · intro w hSw; (try dsimp only at hSw); go_simp; try (with_reducible rfl)
  try simp only [Act.put, List.setIfInBounds_toArray, List.set_cons_zero, List.set_cons_succ]
  refine takeH 3 (some 31) (v := ?_) rfl rfl (by kernel_rfl) (by kernel_rfl) (by kernel_rfl) (by rfl) ?_ (by exact hHeld) ?_
  rotate_left
  · intro w hSw; (try dsimp only at hSw); go_simp; try (with_reducible rfl)
  try simp only [Act.put, List.setIfInBounds_toArray, List.set_cons_zero, List.set_cons_succ]
  refine takeH 4 (some 32) (v := ?_) rfl rfl (by kernel_rfl) (by kernel_rfl) (by kernel_rfl) (by rfl) ?_ (by exact hHeld) ?_
  rotate_left
  · intro w hSw; (try dsimp only at hSw); go_simp; try (with_reducible rfl)
  try simp only [Act.put, List.setIfInBounds_toArray, List.set_cons_zero, List.set_cons_succ]
  refine wpAnyH_ready (rs := [2]) (by kernel_rfl) (by simp) ?_
  refine stepH 2 rfl (by rfl) (fun K hK => ?_) ?_
  · go_simp
    (go_at_call 42; (with_reducible refine (ArrayEqual_is s d t e z Hz.out _ _ _ _ _ _ _ _ _ ?_ ?_ ?_ ?_).mono ?_); ((go_split_ands; assumption)); ((go_split_ands; assumption)); ((go_split_ands; assumption)); ((go_split_ands; assumption)); rintro e6 w6 ⟨rfl, hb6⟩)
    refine hK.out _ _ ?_ (fun hNew => ?_)
    · (try dsimp only); exact hKS _ _ (by first | exact hHeld | exact hS) (by first | assumption | (go_grown; done) | (refine from_drew ?_; go_grown; done))
    clear hK K hHeld
    have hHeld := hNew
    clear hNew
    try dsimp only at hHeld
    try simp only [Act.put, List.setIfInBounds_toArray, List.set_cons_zero, List.set_cons_succ]
    refine wpAnyH_ready (rs := [5]) (by kernel_rfl) (by simp) ?_
    refine stepH 5 rfl (by rfl) (fun K hK => ?_) ?_
    · go_simp
      (go_at_call 38; (with_reducible refine (RefAEqual_is s d t e z Hz.out _ _ _ _ _ _ _ _ _ ?_ ?_ ?_ ?_).mono ?_); ((go_split_ands; assumption)); ((go_split_ands; assumption)); ((go_split_ands; assumption)); ((go_split_ands; assumption)); rintro e7 w7 ⟨rfl, hb7⟩)
      refine hK.out _ _ ?_ (fun hNew => ?_)
      · (try dsimp only); exact hKS _ _ (by first | exact hHeld | exact hS) (by first | assumption | (go_grown; done) | (refine from_drew ?_; go_grown; done))
      clear hK K hHeld
      have hHeld := hNew
      clear hNew
      try dsimp only at hHeld
      try simp only [Act.put, List.setIfInBounds_toArray, List.set_cons_zero, List.set_cons_succ]
      refine takeH 6 (some 34) (v := ?_) rfl rfl (by kernel_rfl) (by kernel_rfl) (by kernel_rfl) (by rfl) ?_ (by exact hHeld) ?_
      rotate_left
      · intro w hSw; (try dsimp only at hSw); go_simp; try (with_reducible rfl)
      try simp only [Act.put, List.setIfInBounds_toArray, List.set_cons_zero, List.set_cons_succ]
      refine takeH 7 (some 35) (v := ?_) rfl rfl (by kernel_rfl) (by kernel_rfl) (by kernel_rfl) (by rfl) ?_ (by exact hHeld) ?_
      rotate_left
      · intro w hSw; (try dsimp only at hSw); go_simp; try (with_reducible rfl)
      try simp only [Act.put, List.setIfInBounds_toArray, List.set_cons_zero, List.set_cons_succ]
      refine takeH 8 (some 36) (v := ?_) rfl rfl (by kernel_rfl) (by kernel_rfl) (by kernel_rfl) (by rfl) ?_ (by exact hHeld) ?_
      rotate_left
      · intro w hSw; (try dsimp only at hSw); go_simp; try (with_reducible rfl)
      try simp only [Act.put, List.setIfInBounds_toArray, List.set_cons_zero, List.set_cons_succ]
      refine takeH 9 (some 37) (v := ?_) rfl rfl (by kernel_rfl) (by kernel_rfl) (by kernel_rfl) (by rfl) ?_ (by exact hHeld) ?_
      rotate_left
      · intro w hSw; (try dsimp only at hSw); go_simp; try (with_reducible rfl)
      try simp only [Act.put, List.setIfInBounds_toArray, List.set_cons_zero, List.set_cons_succ]
      refine wpAnyH_ready (rs := [10]) (by kernel_rfl) (by simp) ?_
      refine stepH 10 rfl (by rfl) (fun K hK => ?_) ?_
      · go_simp
        (go_at_call 43; (with_reducible refine (RefCopy_ints p q c f s d _ ?_ ?_ hl1 hl2).mono ?_); ((go_split_ands; assumption)); ((go_split_ands; assumption)); rintro e8 w8 ⟨⟨pk, ck, qk, fk, rfl, hk1, hk2⟩, hb8⟩)
        refine hK.out _ _ ?_ (fun hNew => ?_)
        · (try dsimp only); exact hKS _ _ (by first | exact hHeld | exact hS) (by first | assumption | (go_grown; done) | (refine from_drew ?_; go_grown; done))
        clear hK K hHeld
        have hHeld := hNew
        clear hNew
        try dsimp only at hHeld
        try simp only [Act.put, List.setIfInBounds_toArray, List.set_cons_zero, List.set_cons_succ]
        refine wpAnyH_ready (rs := [11]) (by kernel_rfl) (by simp) ?_
        refine stepH 11 rfl (by rfl) (fun K hK => ?_) ?_
        · go_simp
          (go_at_call 42; (with_reducible refine (ArrayEqual_is s d s d true Hself.out _ _ _ _ _ _ _ _ _ ?_ ?_ ?_ ?_).mono ?_); ((go_split_ands; assumption)); ((go_split_ands; assumption)); ((go_split_ands; assumption)); ((go_split_ands; assumption)); rintro e9 w9 ⟨rfl, hb9⟩)
          refine hK.out _ _ ?_ (fun hNew => ?_)
          · (try dsimp only); exact hKS _ _ (by first | exact hHeld | exact hS) (by first | assumption | (go_grown; done) | (refine from_drew ?_; go_grown; done))
          clear hK K hHeld
          have hHeld := hNew
          clear hNew
          try dsimp only at hHeld
          try simp only [Act.put, List.setIfInBounds_toArray, List.set_cons_zero, List.set_cons_succ]
          refine takeH 12 (some 40) (v := ?_) rfl rfl (by kernel_rfl) (by kernel_rfl) (by kernel_rfl) (by rfl) ?_ (by exact hHeld) ?_
          rotate_left
          · intro w hSw; (try dsimp only at hSw); go_simp; try (with_reducible rfl)
          try simp only [Act.put, List.setIfInBounds_toArray, List.set_cons_zero, List.set_cons_succ]
          refine takeH 13 (some 41) (v := ?_) rfl rfl (by kernel_rfl) (by kernel_rfl) (by kernel_rfl) (by rfl) ?_ (by exact hHeld) ?_
          rotate_left
          · intro w hSw; (try dsimp only at hSw); go_simp; try (with_reducible rfl)
          try simp only [Act.put, List.setIfInBounds_toArray, List.set_cons_zero, List.set_cons_succ]
          refine takeH 14 (some 42) (v := ?_) rfl rfl (by kernel_rfl) (by kernel_rfl) (by kernel_rfl) (by rfl) ?_ (by exact hHeld) ?_
          rotate_left
          · intro w hSw; (try dsimp only at hSw); go_simp; try (with_reducible rfl)
          try simp only [Act.put, List.setIfInBounds_toArray, List.set_cons_zero, List.set_cons_succ]
          refine takeH 15 (some 43) (v := ?_) rfl rfl (by kernel_rfl) (by kernel_rfl) (by kernel_rfl) (by rfl) ?_ (by exact hHeld) ?_
          rotate_left
          · intro w hSw; (try dsimp only at hSw); go_simp; try (with_reducible rfl)
          try simp only [Act.put, List.setIfInBounds_toArray, List.set_cons_zero, List.set_cons_succ]
          refine takeH 16 (some 44) (v := ?_) rfl rfl (by kernel_rfl) (by kernel_rfl) (by kernel_rfl) (by rfl) ?_ (by exact hHeld) ?_
          rotate_left
          · intro w hSw; (try dsimp only at hSw); go_simp; try (with_reducible rfl)
          try simp only [Act.put, List.setIfInBounds_toArray, List.set_cons_zero, List.set_cons_succ]
          refine takeH 18 (some 46) (v := ?_) rfl rfl (by kernel_rfl) (by kernel_rfl) (by kernel_rfl) (by rfl) ?_ (by exact hHeld) ?_
          rotate_left
          · intro w hSw; (try dsimp only at hSw); go_simp; try (with_reducible rfl)
          try simp only [Act.put, List.setIfInBounds_toArray, List.set_cons_zero, List.set_cons_succ]
          refine wpAnyH_ready (rs := [17]) (by kernel_rfl) (by simp) ?_
          refine stepH 17 rfl (by rfl) (fun K hK => ?_) ?_
          · go_simp
            refine hK.out _ _ ?_ (fun hNew => ?_)
            · (try dsimp only); exact hKS _ _ (by first | exact hHeld | exact hS) (by first | assumption | (go_grown; done) | (refine from_drew ?_; go_grown; done))
            clear hK K hHeld
            have hHeld := hNew
            clear hNew
            try dsimp only at hHeld
            try simp only [Act.put, List.setIfInBounds_toArray, List.set_cons_zero, List.set_cons_succ]
            refine takeH 19 (some 47) (v := ?_) rfl rfl (by kernel_rfl) (by kernel_rfl) (by kernel_rfl) (by rfl) ?_ (by exact hHeld) ?_
            rotate_left
            · intro w hSw; (try dsimp only at hSw); go_simp; try (with_reducible rfl)
            try simp only [Act.put, List.setIfInBounds_toArray, List.set_cons_zero, List.set_cons_succ]
            refine wpAnyH_ready (rs := [20]) (by kernel_rfl) (by simp) ?_
            refine stepH 20 rfl (by rfl) (fun K hK => ?_) ?_
            · go_simp
              (go_at_call 38; (with_reducible refine (RefAEqual_one l true Hz1.out _ _ _ _ _ _ _ _ _ ?_ ?_ ?_ ?_).mono ?_); ((go_split_ands; assumption)); ((go_split_ands; assumption)); (first | exact (Ints.lit _ _ [(l.length : Int)] _ (by simp) Hlen.out (by simp)).keep ((Below.refl _ _).drew) | exact Ints.lit _ _ [(l.length : Int)] _ (by simp) Hlen.out (by simp)); ((go_split_ands; assumption)); rintro ea wa ⟨rfl, hba⟩)
              refine hK.out _ _ ?_ (fun hNew => ?_)
              · (try dsimp only); exact hKS _ _ (by first | exact hHeld | exact hS) (by first | assumption | (go_grown; done) | (refine from_drew ?_; go_grown; done))
              clear hK K hHeld
              have hHeld := hNew
              clear hNew
              try dsimp only at hHeld
              try simp only [Act.put, List.setIfInBounds_toArray, List.set_cons_zero, List.set_cons_succ]
              refine takeH 21 (some 49) (v := ?_) rfl rfl (by kernel_rfl) (by kernel_rfl) (by kernel_rfl) (by rfl) ?_ (by exact hHeld) ?_
              rotate_left
              · intro w hSw; (try dsimp only at hSw); go_simp; try (with_reducible rfl)
              try simp only [Act.put, List.setIfInBounds_toArray, List.set_cons_zero, List.set_cons_succ]
              refine takeH 22 (some 50) (v := ?_) rfl rfl (by kernel_rfl) (by kernel_rfl) (by kernel_rfl) (by rfl) ?_ (by exact hHeld) ?_
              rotate_left
              · intro w hSw; (try dsimp only at hSw); go_simp; try (with_reducible rfl)
              try simp only [Act.put, List.setIfInBounds_toArray, List.set_cons_zero, List.set_cons_succ]
              refine takeH 23 (some 51) (v := ?_) rfl rfl (by kernel_rfl) (by kernel_rfl) (by kernel_rfl) (by rfl) ?_ (by exact hHeld) ?_
              rotate_left
              · intro w hSw; (try dsimp only at hSw); go_simp; try (with_reducible rfl)
              try simp only [Act.put, List.setIfInBounds_toArray, List.set_cons_zero, List.set_cons_succ]
              refine takeH 24 (some 52) (v := ?_) rfl rfl (by kernel_rfl) (by kernel_rfl) (by kernel_rfl) (by rfl) ?_ (by exact hHeld) ?_
              rotate_left
              · intro w hSw; (try dsimp only at hSw); go_simp; try (with_reducible rfl)
              try simp only [Act.put, List.setIfInBounds_toArray, List.set_cons_zero, List.set_cons_succ]
              refine takeH 25 (some 53) (v := ?_) rfl rfl (by kernel_rfl) (by kernel_rfl) (by kernel_rfl) (by rfl) ?_ (by exact hHeld) ?_
              rotate_left
              · intro w hSw; (try dsimp only at hSw); go_simp; try (with_reducible rfl)
              try simp only [Act.put, List.setIfInBounds_toArray, List.set_cons_zero, List.set_cons_succ]
              refine takeH 26 (some 54) (v := ?_) rfl rfl (by kernel_rfl) (by kernel_rfl) (by kernel_rfl) (by rfl) ?_ (by exact hHeld) ?_
              rotate_left
              · intro w hSw; (try dsimp only at hSw); go_simp; try (with_reducible rfl)
              try simp only [Act.put, List.setIfInBounds_toArray, List.set_cons_zero, List.set_cons_succ]
              refine skipH 27 (some 55) rfl rfl (by kernel_rfl) (by kernel_rfl) (by kernel_rfl) (by rfl) (by exact hHeld) ?_
              try simp only [Act.put, List.setIfInBounds_toArray, List.set_cons_zero, List.set_cons_succ]
              refine skipH 28 (some 56) rfl rfl (by kernel_rfl) (by kernel_rfl) (by kernel_rfl) (by rfl) (by exact hHeld) ?_
              try simp only [Act.put, List.setIfInBounds_toArray, List.set_cons_zero, List.set_cons_succ]
              refine skipH 29 (some 57) rfl rfl (by kernel_rfl) (by kernel_rfl) (by kernel_rfl) (by rfl) (by exact hHeld) ?_
              try simp only [Act.put, List.setIfInBounds_toArray, List.set_cons_zero, List.set_cons_succ]
              refine skipH 30 (some 58) rfl rfl (by kernel_rfl) (by kernel_rfl) (by kernel_rfl) (by rfl) (by exact hHeld) ?_
              try simp only [Act.put, List.setIfInBounds_toArray, List.set_cons_zero, List.set_cons_succ]
              refine skipH 31 (some 59) rfl rfl (by kernel_rfl) (by kernel_rfl) (by kernel_rfl) (by rfl) (by exact hHeld) ?_
              try simp only [Act.put, List.setIfInBounds_toArray, List.set_cons_zero, List.set_cons_succ]
              refine skipH 32 (some 60) rfl rfl (by kernel_rfl) (by kernel_rfl) (by kernel_rfl) (by rfl) (by exact hHeld) ?_
              try simp only [Act.put, List.setIfInBounds_toArray, List.set_cons_zero, List.set_cons_succ]
              refine skipH 33 (some 61) rfl rfl (by kernel_rfl) (by kernel_rfl) (by kernel_rfl) (by rfl) (by exact hHeld) ?_
              try simp only [Act.put, List.setIfInBounds_toArray, List.set_cons_zero, List.set_cons_succ]
              refine skipH 34 (some 62) rfl rfl (by kernel_rfl) (by kernel_rfl) (by kernel_rfl) (by rfl) (by exact hHeld) ?_
              try simp only [Act.put, List.setIfInBounds_toArray, List.set_cons_zero, List.set_cons_succ]
              refine takeH 35 (some 63) (v := ?_) rfl rfl (by kernel_rfl) (by kernel_rfl) (by kernel_rfl) (by rfl) ?_ (by exact hHeld) ?_
              rotate_left
              · intro w hSw; (try dsimp only at hSw); go_simp; try (with_reducible rfl)
              try simp only [Act.put, List.setIfInBounds_toArray, List.set_cons_zero, List.set_cons_succ]
              refine takeH 36 (some 64) (v := ?_) rfl rfl (by kernel_rfl) (by kernel_rfl) (by kernel_rfl) (by rfl) ?_ (by exact hHeld) ?_
              rotate_left
              · intro w hSw; (try dsimp only at hSw); go_simp; try (with_reducible rfl)
              try simp only [Act.put, List.setIfInBounds_toArray, List.set_cons_zero, List.set_cons_succ]
              refine takeH 37 (some 6) (v := ?_) rfl rfl (by kernel_rfl) (by kernel_rfl) (by kernel_rfl) (by rfl) ?_ (by exact hHeld) ?_
              rotate_left
              · intro w hSw; (try dsimp only at hSw); go_simp; try (with_reducible rfl)
              try simp only [Act.put, List.setIfInBounds_toArray, List.set_cons_zero, List.set_cons_succ]
              refine wpAnyH_done (by kernel_rfl) ?_ _
              refine NoPanic.normal ?_
              go_wp2_with fail
              go_ret
              refine ⟨rfl, ?_⟩
              go_split_ands
              assumption
            exact AllReadyH.nil
          exact AllReadyH.nil
        exact AllReadyH.nil
      exact AllReadyH.nil
    exact AllReadyH.nil
  exact AllReadyH.nil

set_option maxHeartbeats 1000000 in
theorem ArrayEquals_law (p : Option Addr) (c : Nat) (s : List Int) (q : Option Addr) (f : Nat) (d : List Int) (p' : Option Addr) (c' : Nat) (t : List Int) (q' : Option Addr) (f' : Nat) (e : List Int) (r : Option Addr) (g : Nat) (l : List Int) (w : World)
    (h1 : Ints w p s) (h2 : Ints w q d) (h3 : Ints w p' t) (h4 : Ints w q' e) (h5 : Ints w r l) (hcap : l.length ≤ g) :
    Calls Try.prog 9 #[.agg #[.slice p s.length c, .slice q d.length f], .agg #[.slice p' t.length c', .slice q' e.length f'], .slice r l.length g] w fun z w' => z = .returned (.bool true) ∧ Below w.heap.size w w' := by
  have hsm := h5.small
  cases f1 : fewS s d 1000 with
  | false =>
    have Hf1 := Lib.hid f1
    clear f1
    go_enter Try.func9, Try.ntmps9
    go_wp2_with fail
    refine (awake05 _).mono ?_
    rintro e w' ⟨rfl, hb1⟩
    have A := ((At2.new w _ (.slice p s.length c) (.slice q d.length f) 43 rfl).keep (below_alloc _ (.cells #[.slice p' t.length c', .slice q' e.length f'] 43))).keep hb1
    have B := (At2.new (w.alloc (.cells #[.slice p s.length c, .slice q d.length f] 43)) (w.heap.size + 1) (.slice p' t.length c') (.slice q' e.length f') 43 (by simp)).keep hb1
    have hb := below_2 hb1
    have hA0 := A.c0
    have hA1 := A.c1
    have hB0 := B.c0
    have hB1 := B.c1
    clear hb1
    go_wp2_with fail
    refine (RefFew_is s d 1000 false Hf1.out _ _ _ _ _ (h1.keep hb) (h2.keep hb)).mono ?_
    rintro e w' ⟨rfl, hb2⟩
    have A := A.keep hb2
    have hA0 := A.c0
    have hA1 := A.c1
    have B := B.keep hb2
    have hB0 := B.c0
    have hB1 := B.c1
    have hb := below_t hb hb2
    clear hb2
    go_wp2_with fail
    refine (awake05 _).mono ?_
    rintro e w' ⟨rfl, hb4⟩
    go_wp2_with fail
    go_ret
    exact ⟨rfl, below_t hb hb4⟩
  | true =>
    cases f2 : fewS t e 1000 with
    | false =>
      have Hf1 := Lib.hid f1
      have Hf2 := Lib.hid f2
      clear f1 f2
      go_enter Try.func9, Try.ntmps9
      go_wp2_with fail
      refine (awake05 _).mono ?_
      rintro e w' ⟨rfl, hb1⟩
      have A := ((At2.new w _ (.slice p s.length c) (.slice q d.length f) 43 rfl).keep (below_alloc _ (.cells #[.slice p' t.length c', .slice q' e.length f'] 43))).keep hb1
      have B := (At2.new (w.alloc (.cells #[.slice p s.length c, .slice q d.length f] 43)) (w.heap.size + 1) (.slice p' t.length c') (.slice q' e.length f') 43 (by simp)).keep hb1
      have hb := below_2 hb1
      have hA0 := A.c0
      have hA1 := A.c1
      have hB0 := B.c0
      have hB1 := B.c1
      clear hb1
      go_wp2_with fail
      refine (RefFew_is s d 1000 true Hf1.out _ _ _ _ _ (h1.keep hb) (h2.keep hb)).mono ?_
      rintro e w' ⟨rfl, hb2⟩
      have A := A.keep hb2
      have hA0 := A.c0
      have hA1 := A.c1
      have B := B.keep hb2
      have hB0 := B.c0
      have hB1 := B.c1
      have hb := below_t hb hb2
      clear hb2
      go_wp2_with fail
      refine (RefFew_is t e 1000 false Hf2.out _ _ _ _ _ (h3.keep hb) (h4.keep hb)).mono ?_
      rintro e w' ⟨rfl, hb3⟩
      have hb := below_t hb hb3
      clear hb3
      go_wp2_with fail
      refine (awake05 _).mono ?_
      rintro e w' ⟨rfl, hb4⟩
      go_wp2_with fail
      go_ret
      exact ⟨rfl, below_t hb hb4⟩
    | true =>
      by_cases hl : 1000 < l.length
      · have Hf1 := Lib.hid f1
        have Hf2 := Lib.hid f2
        clear f1 f2
        go_enter Try.func9, Try.ntmps9
        go_wp2_with fail
        refine (awake05 _).mono ?_
        rintro e w' ⟨rfl, hb1⟩
        have A := ((At2.new w _ (.slice p s.length c) (.slice q d.length f) 43 rfl).keep (below_alloc _ (.cells #[.slice p' t.length c', .slice q' e.length f'] 43))).keep hb1
        have B := (At2.new (w.alloc (.cells #[.slice p s.length c, .slice q d.length f] 43)) (w.heap.size + 1) (.slice p' t.length c') (.slice q' e.length f') 43 (by simp)).keep hb1
        have hb := below_2 hb1
        have hA0 := A.c0
        have hA1 := A.c1
        have hB0 := B.c0
        have hB1 := B.c1
        clear hb1
        go_wp2_with fail
        refine (RefFew_is s d 1000 true Hf1.out _ _ _ _ _ (h1.keep hb) (h2.keep hb)).mono ?_
        rintro e w' ⟨rfl, hb2⟩
        have A := A.keep hb2
        have hA0 := A.c0
        have hA1 := A.c1
        have B := B.keep hb2
        have hB0 := B.c0
        have hB1 := B.c1
        have hb := below_t hb hb2
        clear hb2
        go_wp2_with fail
        refine (RefFew_is t e 1000 true Hf2.out _ _ _ _ _ (h3.keep hb) (h4.keep hb)).mono ?_
        rintro e w' ⟨rfl, hb3⟩
        have hb := below_t hb hb3
        clear hb3
        go_wp2_with fail
        refine (awake05 _).mono ?_
        rintro e w' ⟨rfl, hb4⟩
        go_wp2_with fail
        go_ret
        exact ⟨rfl, below_t hb hb4⟩
      · by_cases hl0 : 0 < l.length
        · exact ArrayEquals_some p c s q f d p' c' t q' f' e r g l w h1 h2 h3 h4 h5 hcap f1 f2 hl hl0
        · exact ArrayEquals_none p c s q f d p' c' t q' f' e r g l w h1 h2 h3 h4 h5 hcap f1 f2 hl (by omega)
end Go.Proofs.Ythkfjdhakbjllaa
