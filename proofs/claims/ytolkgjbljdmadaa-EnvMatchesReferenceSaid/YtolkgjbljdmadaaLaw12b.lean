/- The law SpecNumbers, walked: it returns true at all arguments and writes nothing that was there. No condition. -/
import Derived.Test.YtolkgjbljdmadaaLaw12
import Derived.Test.YtolkgjbljdmadaaApp
import Derived.Deep.DeepCutAuto
namespace Go.Proofs.Ytolkgjbljdmadaa
open Go.RowKit Go.Shelf
set_option linter.unusedVariables false
set_option linter.unusedSimpArgs false

theorem nth_row {xs : List Int} {k : Nat} (hk : k < xs.length) : (xs.map (Value.int .i64))[k]? = some (.int .i64 (nth xs k)) := by
  simp [nth_get? hk]
theorem row_set (xs : List Int) (k : Nat) (v : Int) : (xs.map (Value.int .i64)).set k (.int .i64 v) = (xs.set k v).map (.int .i64) := by
  rw [List.map_set]
theorem One_pair (vs : List Int) (hl : vs.length ≤ 1000000) :
    ∃ o f : Int, (∀ p c sc w, Ints w p vs → Calls Try.prog 19 #[.agg #[.slice p vs.length c, .bool sc]] w fun e w' => e = .returned (.tuple #[.int .i64 o, .int .i64 f]) ∧ Below w.heap.size w w') ∧
      (vs.length = 1 ∧ o = nth vs 0 ∧ f = 0 ∨ vs.length ≠ 1 ∧ o = 0 ∧ f = 5) := by
  by_cases h1 : vs.length = 1
  · match vs, h1 with
    | [v], _ => exact ⟨v, 0, fun p c sc w h => One_yes p c v sc w h, .inl ⟨rfl, rfl, rfl⟩⟩
  · exact ⟨0, 5, fun p c sc w h => One_no p c vs sc w h1, .inr ⟨h1, rfl, rfl⟩⟩

theorem Sp2.set_far {w : World} {g : Nat} {v : Value} {sc : Bool} (h : Sp2 w g v sc) {a : Addr} (ha : a.block ≠ g) (x : Value) : Sp2 (w.setCell a x) g v sc :=
  ⟨by simpa using h.lt, (World.cell?_setCell_far _ _ _ _ ha).trans h.c0, (World.cell?_setCell_far _ _ _ _ ha).trans h.c1⟩

theorem sp2_set {w : World} {g : Nat} {u u' : Value} (hg : g < w.heap.size) (h0 : w.cell? ⟨g, 0, none⟩ = some u) (h1 : w.cell? ⟨g, 1, none⟩ = some u') (v : Value) (sc : Bool) : Sp2 ((w.setCell ⟨g, 0, none⟩ v).setCell ⟨g, 1, none⟩ (.bool sc)) g v sc :=
  ⟨by simpa using hg, (World.cell?_setCell_other _ _ _ _ (by simp)).trans (World.cell?_setCell_same _ _ _ h0), World.cell?_setCell_same _ _ _ ((World.cell?_setCell_other _ _ _ _ (by simp)).trans h1)⟩

theorem below_unalloc {B : Nat} {w w' : World} {o : Obj} (h : Below B w (w'.alloc o)) (hs : w.heap.size ≤ w'.heap.size) (hB : B ≤ w'.heap.size) : Below B w w' :=
  ⟨h.os, h.tape, h.output, hs, fun k hk => (Below.heap_alloc w' o k (Nat.lt_of_lt_of_le hk hB)).symm.trans (h.block k hk)⟩
theorem Sp2.unalloc {w : World} {g : Nat} {v : Value} {sc : Bool} {o : Obj} (h : Sp2 (w.alloc o) g v sc) (hg : g < w.heap.size) : Sp2 w g v sc :=
  ⟨hg, ((below_alloc w o).cell (p := ⟨g, 0, none⟩) hg).symm.trans h.c0, ((below_alloc w o).cell (p := ⟨g, 1, none⟩) hg).symm.trans h.c1⟩

set_option maxRecDepth 100000 in
set_option maxHeartbeats 4000000 in
theorem SpecNumbers_len (p : Option Addr) (c : Nat) (vs : List Int) (sc : Bool) (n : Int) (w : World) (h : Ints w p vs) (hl : vs.length ≤ 300) (hn : (vs.length : Int) ≠ n) :
    Calls Try.prog 5 #[.agg #[.slice p vs.length c, .bool sc], .int .i64 n] w fun e w' => e = .returned (.bool true) ∧ Below w.heap.size w w' := by
  have hsm := h.small
  have A := Sp2.new w _ (.slice p vs.length c) sc 24 rfl
  have hd : decide (300 < (vs.length : Int)) = false := decide_eq_false (by omega)
  have hnb : (n != (vs.length : Int)) = true := by simp; omega
  have hne : (n == (vs.length : Int)) = false := by simp; omega
  obtain ⟨o, f, h1, h2⟩ := One_pair vs (by omega)
  have H1 := Lib.hid h1
  have H2 := Lib.hid h2
  have Hn := Lib.hid hn
  clear h1 h2 hn
  have hKS : Keeps (fun w' => Below w.heap.size w w' ∧ (w.heap.size < w'.heap.size ∧ w'.cell? ⟨w.heap.size, 0, none⟩ = some (.slice p vs.length c) ∧ w'.cell? ⟨w.heap.size, 1, none⟩ = some (.bool sc))) := (keeps_below _).and (keeps_cells _ _ _)
  have hKst : ∀ (w' : World) (g : Nat) (x y : Value), w.heap.size < g → (Below w.heap.size w w' ∧ (w.heap.size < w'.heap.size ∧ w'.cell? ⟨w.heap.size, 0, none⟩ = some (.slice p vs.length c) ∧ w'.cell? ⟨w.heap.size, 1, none⟩ = some (.bool sc))) →
      (fun w' => Below w.heap.size w w' ∧ (w.heap.size < w'.heap.size ∧ w'.cell? ⟨w.heap.size, 0, none⟩ = some (.slice p vs.length c) ∧ w'.cell? ⟨w.heap.size, 1, none⟩ = some (.bool sc))) ((w'.setCell ⟨g, 0, none⟩ x).setCell ⟨g, 1, none⟩ y) := by
    rintro w' g x y hg ⟨k1, k2, k3, k4⟩
    have hA := ((⟨k2, k3, k4⟩ : Sp2 w' w.heap.size (.slice p vs.length c) sc).set_far (a := ⟨g, 0, none⟩) (by show g ≠ _; omega) x).set_far (a := ⟨g, 1, none⟩) (by show g ≠ _; omega) y
    exact ⟨(k1.setCell (p := ⟨g, 0, none⟩) (Nat.le_of_lt hg) _).setCell (p := ⟨g, 1, none⟩) (Nat.le_of_lt hg) _, hA.lt, hA.c0, hA.c1⟩
  have hKal : ∀ (w' : World) (o o' : Obj), w.heap.size < w'.heap.size → (fun w' => Below w.heap.size w w' ∧ (w.heap.size < w'.heap.size ∧ w'.cell? ⟨w.heap.size, 0, none⟩ = some (.slice p vs.length c) ∧ w'.cell? ⟨w.heap.size, 1, none⟩ = some (.bool sc))) (w'.alloc o) → (fun w' => Below w.heap.size w w' ∧ (w.heap.size < w'.heap.size ∧ w'.cell? ⟨w.heap.size, 0, none⟩ = some (.slice p vs.length c) ∧ w'.cell? ⟨w.heap.size, 1, none⟩ = some (.bool sc))) (w'.alloc o') := by
    rintro w' o o' hlt ⟨k1, k2, k3, k4⟩
    have hA := (⟨k2, k3, k4⟩ : Sp2 (w'.alloc o) w.heap.size (.slice p vs.length c) sc).unalloc hlt
    exact hKS w' _ ⟨below_unalloc k1 (Nat.le_of_lt hlt) (Nat.le_of_lt hlt), hA.lt, hA.c0, hA.c1⟩ (below_alloc _ _)
  go_enter Try.func5, Try.ntmps5
  go_wp2_with fail
  refine (awake12 _).mono ?_
  rintro e1 w1 ⟨rfl, hb1⟩
  have A := A.keep hb1
  have hb := below_1 hb1
  clear hb1
  have hS := hKS _ _ ⟨hb, A.lt, A.c0, A.c1⟩ (Below.refl _ _)
  have hsz := A.lt
  have q0 := A.c0
  go_upto_region 3 with fail
  clear q0
  go_cut [5] (fun s5 wx => ∃ (g : Nat) (pv : Option Addr) (cv : Nat), s5 = .pointer (some ⟨g, 0, none⟩) ∧ Sp2 wx g (.slice pv vs.length cv) sc ∧ Ints wx pv vs ∧ Sp2 wx w.heap.size (.slice p vs.length c) sc ∧ Below w.heap.size w wx)
  case first =>
    refine wp_region_noPanic ?_
    refine wp_region_held_drew (S := (fun w' => Below w.heap.size w w' ∧ (w.heap.size < w'.heap.size ∧ w'.cell? ⟨w.heap.size, 0, none⟩ = some (.slice p vs.length c) ∧ w'.cell? ⟨w.heap.size, 1, none⟩ = some (.bool sc)))) (by kernel_rfl) ?_ (fun hHeld => ?_)
    · (try dsimp only); first | exact hKS _ _ (by first | exact hHeld | exact hS) (by first | assumption | (go_grown; done) | (refine from_drew ?_; go_grown; done)) | exact hKst _ _ _ _ (by have := hHeld.2.1; simp; omega) hHeld | exact hKal w2 _ _ (by omega) hHeld
    refine takeH 1 (some 21) (v := ?_) rfl rfl (by kernel_rfl) (by kernel_rfl) (by kernel_rfl) (by rfl) ?_ (by exact hHeld) ?_
    rotate_left
    · intro w hSw; (try dsimp only at hSw); go_simp; try (with_reducible rfl)
    try simp only [Act.put, List.setIfInBounds_toArray, List.set_cons_zero, List.set_cons_succ]
    refine takeH 2 (some 22) (v := ?_) rfl rfl (by kernel_rfl) (by kernel_rfl) (by kernel_rfl) (by rfl) ?_ (by exact hHeld) ?_
    rotate_left
    · intro w hSw; (try dsimp only at hSw); go_simp; try (with_reducible rfl)
    try simp only [Act.put, List.setIfInBounds_toArray, List.set_cons_zero, List.set_cons_succ]
    refine takeH 4 (some 24) (v := ?_) rfl rfl (by kernel_rfl) (by kernel_rfl) (by kernel_rfl) (by rfl) ?_ (by exact hHeld) ?_
    rotate_left
    · intro w hSw; (try dsimp only at hSw); go_simp; try (with_reducible rfl)
    try simp only [Act.put, List.setIfInBounds_toArray, List.set_cons_zero, List.set_cons_succ]
    refine takeH 5 (some 25) (v := ?_) rfl rfl (by kernel_rfl) (by kernel_rfl) (by kernel_rfl) (by rfl) ?_ (by exact hHeld) ?_
    rotate_left
    · intro w hSw; (try dsimp only at hSw); go_simp; try (with_reducible rfl)
    try simp only [Act.put, List.setIfInBounds_toArray, List.set_cons_zero, List.set_cons_succ]
    refine wpAnyH_ready (rs := [0, 7]) (by kernel_rfl) (by simp) ?_
    refine stepH 0 rfl (by rfl) (fun K hK => ?_) ?_
    · go_simp
      refine hK.out _ _ ?_ (fun hNew => ?_)
      · (try dsimp only); first | exact hKS _ _ (by first | exact hHeld | exact hS) (by first | assumption | (go_grown; done) | (refine from_drew ?_; go_grown; done)) | exact hKst _ _ _ _ (by have := hHeld.2.1; simp; omega) hHeld | exact hKal w2 _ _ (by omega) hHeld
      clear hK K hHeld
      have hHeld := hNew
      clear hNew
      try dsimp only at hHeld
      try simp only [Act.put, List.setIfInBounds_toArray, List.set_cons_zero, List.set_cons_succ]
      refine wpAnyH_ready (rs := [3, 7]) (by kernel_rfl) (by simp) ?_
      refine stepH 3 rfl (by rfl) (fun K hK => ?_) ?_
      · (refine wp_fresh_i64 _ _ rfl _ p c vs rfl rfl ?_ (by omega) ?_); (exact (h.keep hHeld.1).cells); intro p1 c1 w2 hn1 hb2; obtain ⟨hc1, hf1⟩ := bcell hb2; have hs2 := hb2.size; try simp at hs2
        refine hK.out _ _ ?_ (fun hNew => ?_)
        · (try dsimp only); first | exact hKS _ _ (by first | exact hHeld | exact hS) (by first | assumption | (go_grown; done) | (refine from_drew ?_; go_grown; done)) | exact hKst _ _ _ _ (by have := hHeld.2.1; simp; omega) hHeld | exact hKal w2 _ _ (by omega) hHeld
        clear hK K hHeld
        have hHeld := hNew
        clear hNew
        try dsimp only at hHeld
        try simp only [Act.put, List.setIfInBounds_toArray, List.set_cons_zero, List.set_cons_succ]
        refine takeH 6 (some 26) (v := ?_) rfl rfl (by kernel_rfl) (by kernel_rfl) (by kernel_rfl) (by rfl) ?_ (by exact hHeld) ?_
        rotate_left
        · intro w hSw; (try dsimp only at hSw); go_simp; try (with_reducible rfl)
        try simp only [Act.put, List.setIfInBounds_toArray, List.set_cons_zero, List.set_cons_succ]
        refine wpAnyH_ready (rs := [7]) (by kernel_rfl) (by simp) ?_
        refine stepH 7 rfl (by rfl) (fun K hK => ?_) ?_
        · go_simp
          refine hK.out _ _ ?_ (fun hNew => ?_)
          · (try dsimp only); first | exact hKS _ _ (by first | exact hHeld | exact hS) (by first | assumption | (go_grown; done) | (refine from_drew ?_; go_grown; done)) | exact hKst _ _ _ _ (by have := hHeld.2.1; simp; omega) hHeld | exact hKal w2 _ _ (by omega) hHeld
          clear hK K hHeld
          have hHeld := hNew
          clear hNew
          try dsimp only at hHeld
          try simp only [Act.put, List.setIfInBounds_toArray, List.set_cons_zero, List.set_cons_succ]
          refine wpAnyH_ready (rs := [8]) (by kernel_rfl) (by simp) ?_
          refine stepH 8 rfl (by rfl) (fun K hK => ?_) ?_
          · go_simp
            refine hK.out _ _ ?_ (fun hNew => ?_)
            · (try dsimp only); first | exact hKS _ _ (by first | exact hHeld | exact hS) (by first | assumption | (go_grown; done) | (refine from_drew ?_; go_grown; done)) | exact hKst _ _ _ _ (by have := hHeld.2.1; simp; omega) hHeld | exact hKal w2 _ _ (by omega) hHeld
            clear hK K hHeld
            have hHeld := hNew
            clear hNew
            try dsimp only at hHeld
            try simp only [Act.put, List.setIfInBounds_toArray, List.set_cons_zero, List.set_cons_succ]
            refine wpAnyH_done (by kernel_rfl) ?_ _
            refine NoPanic.normal ?_
            go_wp2_with fail
            go_meet
            first | exact ⟨_, p1, c1, rfl, Sp2.new w2 _ _ _ _ rfl, (hn1.ints h.i64 h.small).keep (below_alloc _ _), ⟨hHeld.2.1, hHeld.2.2.1, hHeld.2.2.2⟩, hHeld.1⟩ | (have hlt2 : w1.heap.size < w1.heap.size + 1 + 1 := (by omega); exact ⟨_, p1, c1, rfl, sp2_set (by first | omega | (simp; done) | (simp; omega)) (u := .slice none 0 0) (u' := .bool false) (by simp [go_sem, hc1, hlt2]) (by simp [go_sem, hc1, hlt2]) _ _, ((hn1.other (by first | (simp; done) | (simp; omega)) _).other (by first | (simp; done) | (simp; omega)) _).ints h.i64 h.small, ⟨hHeld.2.1, hHeld.2.2.1, hHeld.2.2.2⟩, hHeld.1⟩)
          exact AllReadyH.nil
        exact AllReadyH.nil
      refine stepH 7 rfl (by rfl) (fun K hK => ?_) ?_
      · go_simp
        refine hK.out _ _ ?_ (fun hNew => ?_)
        · (try dsimp only); first | exact hKS _ _ (by first | exact hHeld | exact hS) (by first | assumption | (go_grown; done) | (refine from_drew ?_; go_grown; done)) | exact hKst _ _ _ _ (by have := hHeld.2.1; simp; omega) hHeld | exact hKal w2 _ _ (by omega) hHeld
        clear hK K hHeld
        have hHeld := hNew
        clear hNew
        try dsimp only at hHeld
        try simp only [Act.put, List.setIfInBounds_toArray, List.set_cons_zero, List.set_cons_succ]
        refine wpAnyH_ready (rs := [3]) (by kernel_rfl) (by simp) ?_
        refine stepH 3 rfl (by rfl) (fun K hK => ?_) ?_
        · (refine wp_fresh_i64 _ _ rfl _ p c vs rfl rfl ?_ (by omega) ?_); (exact (h.keep hHeld.1).cells); intro p1 c1 w2 hn1 hb2; obtain ⟨hc1, hf1⟩ := bcell hb2; have hs2 := hb2.size; try simp at hs2
          refine hK.out _ _ ?_ (fun hNew => ?_)
          · (try dsimp only); first | exact hKS _ _ (by first | exact hHeld | exact hS) (by first | assumption | (go_grown; done) | (refine from_drew ?_; go_grown; done)) | exact hKst _ _ _ _ (by have := hHeld.2.1; simp; omega) hHeld | exact hKal w2 _ _ (by omega) hHeld
          clear hK K hHeld
          have hHeld := hNew
          clear hNew
          try dsimp only at hHeld
          try simp only [Act.put, List.setIfInBounds_toArray, List.set_cons_zero, List.set_cons_succ]
          refine takeH 6 (some 26) (v := ?_) rfl rfl (by kernel_rfl) (by kernel_rfl) (by kernel_rfl) (by rfl) ?_ (by exact hHeld) ?_
          rotate_left
          · intro w hSw; (try dsimp only at hSw); go_simp; try (with_reducible rfl)
          try simp only [Act.put, List.setIfInBounds_toArray, List.set_cons_zero, List.set_cons_succ]
          refine wpAnyH_ready (rs := [8]) (by kernel_rfl) (by simp) ?_
          refine stepH 8 rfl (by rfl) (fun K hK => ?_) ?_
          · go_simp
            refine hK.out _ _ ?_ (fun hNew => ?_)
            · (try dsimp only); first | exact hKS _ _ (by first | exact hHeld | exact hS) (by first | assumption | (go_grown; done) | (refine from_drew ?_; go_grown; done)) | exact hKst _ _ _ _ (by have := hHeld.2.1; simp; omega) hHeld | exact hKal w2 _ _ (by omega) hHeld
            clear hK K hHeld
            have hHeld := hNew
            clear hNew
            try dsimp only at hHeld
            try simp only [Act.put, List.setIfInBounds_toArray, List.set_cons_zero, List.set_cons_succ]
            refine wpAnyH_done (by kernel_rfl) ?_ _
            refine NoPanic.normal ?_
            go_wp2_with fail
            go_meet
            first | exact ⟨_, p1, c1, rfl, Sp2.new w2 _ _ _ _ rfl, (hn1.ints h.i64 h.small).keep (below_alloc _ _), ⟨hHeld.2.1, hHeld.2.2.1, hHeld.2.2.2⟩, hHeld.1⟩ | (have hlt2 : w1.heap.size < w1.heap.size + 1 + 1 := (by omega); exact ⟨_, p1, c1, rfl, sp2_set (by first | omega | (simp; done) | (simp; omega)) (u := .slice none 0 0) (u' := .bool false) (by simp [go_sem, hc1, hlt2]) (by simp [go_sem, hc1, hlt2]) _ _, ((hn1.other (by first | (simp; done) | (simp; omega)) _).other (by first | (simp; done) | (simp; omega)) _).ints h.i64 h.small, ⟨hHeld.2.1, hHeld.2.2.1, hHeld.2.2.2⟩, hHeld.1⟩)
          exact AllReadyH.nil
        exact AllReadyH.nil
      exact AllReadyH.nil
    refine stepH 7 rfl (by rfl) (fun K hK => ?_) ?_
    · go_simp
      refine hK.out _ _ ?_ (fun hNew => ?_)
      · (try dsimp only); first | exact hKS _ _ (by first | exact hHeld | exact hS) (by first | assumption | (go_grown; done) | (refine from_drew ?_; go_grown; done)) | exact hKst _ _ _ _ (by have := hHeld.2.1; simp; omega) hHeld | exact hKal w2 _ _ (by omega) hHeld
      clear hK K hHeld
      have hHeld := hNew
      clear hNew
      try dsimp only at hHeld
      try simp only [Act.put, List.setIfInBounds_toArray, List.set_cons_zero, List.set_cons_succ]
      refine wpAnyH_ready (rs := [0]) (by kernel_rfl) (by simp) ?_
      refine stepH 0 rfl (by rfl) (fun K hK => ?_) ?_
      · go_simp
        refine hK.out _ _ ?_ (fun hNew => ?_)
        · (try dsimp only); first | exact hKS _ _ (by first | exact hHeld | exact hS) (by first | assumption | (go_grown; done) | (refine from_drew ?_; go_grown; done)) | exact hKst _ _ _ _ (by have := hHeld.2.1; simp; omega) hHeld | exact hKal w2 _ _ (by omega) hHeld
        clear hK K hHeld
        have hHeld := hNew
        clear hNew
        try dsimp only at hHeld
        try simp only [Act.put, List.setIfInBounds_toArray, List.set_cons_zero, List.set_cons_succ]
        refine wpAnyH_ready (rs := [3]) (by kernel_rfl) (by simp) ?_
        refine stepH 3 rfl (by rfl) (fun K hK => ?_) ?_
        · (refine wp_fresh_i64 _ _ rfl _ p c vs rfl rfl ?_ (by omega) ?_); (exact (h.keep hHeld.1).cells); intro p1 c1 w2 hn1 hb2; obtain ⟨hc1, hf1⟩ := bcell hb2; have hs2 := hb2.size; try simp at hs2
          refine hK.out _ _ ?_ (fun hNew => ?_)
          · (try dsimp only); first | exact hKS _ _ (by first | exact hHeld | exact hS) (by first | assumption | (go_grown; done) | (refine from_drew ?_; go_grown; done)) | exact hKst _ _ _ _ (by have := hHeld.2.1; simp; omega) hHeld | exact hKal w2 _ _ (by omega) hHeld
          clear hK K hHeld
          have hHeld := hNew
          clear hNew
          try dsimp only at hHeld
          try simp only [Act.put, List.setIfInBounds_toArray, List.set_cons_zero, List.set_cons_succ]
          refine takeH 6 (some 26) (v := ?_) rfl rfl (by kernel_rfl) (by kernel_rfl) (by kernel_rfl) (by rfl) ?_ (by exact hHeld) ?_
          rotate_left
          · intro w hSw; (try dsimp only at hSw); go_simp; try (with_reducible rfl)
          try simp only [Act.put, List.setIfInBounds_toArray, List.set_cons_zero, List.set_cons_succ]
          refine wpAnyH_ready (rs := [8]) (by kernel_rfl) (by simp) ?_
          refine stepH 8 rfl (by rfl) (fun K hK => ?_) ?_
          · go_simp
            refine hK.out _ _ ?_ (fun hNew => ?_)
            · (try dsimp only); first | exact hKS _ _ (by first | exact hHeld | exact hS) (by first | assumption | (go_grown; done) | (refine from_drew ?_; go_grown; done)) | exact hKst _ _ _ _ (by have := hHeld.2.1; simp; omega) hHeld | exact hKal w2 _ _ (by omega) hHeld
            clear hK K hHeld
            have hHeld := hNew
            clear hNew
            try dsimp only at hHeld
            try simp only [Act.put, List.setIfInBounds_toArray, List.set_cons_zero, List.set_cons_succ]
            refine wpAnyH_done (by kernel_rfl) ?_ _
            refine NoPanic.normal ?_
            go_wp2_with fail
            go_meet
            first | exact ⟨_, p1, c1, rfl, Sp2.new w2 _ _ _ _ rfl, (hn1.ints h.i64 h.small).keep (below_alloc _ _), ⟨hHeld.2.1, hHeld.2.2.1, hHeld.2.2.2⟩, hHeld.1⟩ | (have hlt2 : w1.heap.size < w1.heap.size + 1 + 1 := (by omega); exact ⟨_, p1, c1, rfl, sp2_set (by first | omega | (simp; done) | (simp; omega)) (u := .slice none 0 0) (u' := .bool false) (by simp [go_sem, hc1, hlt2]) (by simp [go_sem, hc1, hlt2]) _ _, ((hn1.other (by first | (simp; done) | (simp; omega)) _).other (by first | (simp; done) | (simp; omega)) _).ints h.i64 h.small, ⟨hHeld.2.1, hHeld.2.2.1, hHeld.2.2.2⟩, hHeld.1⟩)
          exact AllReadyH.nil
        exact AllReadyH.nil
      exact AllReadyH.nil
    exact AllReadyH.nil
  case rest =>
    obtain ⟨g, pv, cv, rfl, O, iv, A, hb⟩ := hcut
    have ip := h.keep hb
    clear hKS hKst hKal hS
    have o0 := O.c0
    have o1 := O.c1
    go_wp2_with fail
    clear o0 o1
    refine (Exactly_no pv cv vs sc n _ Hn.out).mono ?_
    rintro e2 w2 ⟨rfl, hb1⟩
    have O := O.keep hb1
    have A := A.keep hb1
    have iv := iv.keep hb1
    have ip := ip.keep hb1
    have hb := below_t hb hb1
    clear hb1
    have o0 := O.c0
    have o1 := O.c1
    go_wp2_with fail
    clear o0 o1
    refine (H1.out _ _ _ _ iv).mono ?_
    rintro e3 w3 ⟨rfl, hb1⟩
    have O := O.keep hb1
    have A := A.keep hb1
    have iv := iv.keep hb1
    have ip := ip.keep hb1
    have hb := below_t hb hb1
    clear hb1
    have a0 := A.c0
    have a1 := A.c1
    go_wp2_with fail
    go_loop [10] (fun i => i = .int .i64 0) (fun _ => 0)
    case atStart => rfl
    case round =>
      have hi0 := hrel
      subst hi0
      have o0 := O.c0
      have o1 := O.c1
      go_wp2_with fail
      clear o0 o1 a0 a1
      refine (SpSame_yes pv p cv c vs sc _ iv ip (by omega)).mono ?_
      rintro e4 w4 ⟨rfl, hb1⟩
      have A := A.keep hb1
      have ip := ip.keep hb1
      have hb := below_t hb hb1
      clear hb1
      have a0 := A.c0
      rcases H2.out with ⟨e1, e2, e3⟩ | ⟨e1, e2, e3⟩
      · have e1' : (vs.length : Int) = 1 := by omega
        have hk : 0 < vs.length := by omega
        obtain ⟨b1, o1, rfl, -, hc1⟩ := ip.at hk
        rw [← e2] at hc1
        have hc2 : w4.cell? ⟨b1, o1, none⟩ = some (.int .i64 o) := hc1
        have hv1 : ((vs.length : Int) != 1) = false := by simp [e1']
        have hl1 : (0 : Int) < (vs.length : Int) := by omega
        have hoo : (o == o) = true := by simp
        subst e3
        clear e1 e1' e2 hc1 H2
        go_wp2_with fail
        go_ret
        exact ⟨rfl, hb⟩
      · have hv1 : ((vs.length : Int) != 1) = true := by simp; omega
        subst e2 e3
        clear e1 H2
        go_wp2_with fail
        go_ret
        exact ⟨rfl, hb⟩
set_option maxRecDepth 100000 in
set_option maxHeartbeats 4000000 in
theorem SpecNumbers_yes (p : Option Addr) (c : Nat) (vs : List Int) (sc : Bool) (w : World) (h : Ints w p vs) (hl : vs.length ≤ 300) :
    Calls Try.prog 5 #[.agg #[.slice p vs.length c, .bool sc], .int .i64 vs.length] w fun e w' => e = .returned (.bool true) ∧ Below w.heap.size w w' := by
  have hsm := h.small
  have A := Sp2.new w _ (.slice p vs.length c) sc 24 rfl
  have hd : decide (300 < (vs.length : Int)) = false := decide_eq_false (by omega)
  have hnb : ((vs.length : Int) != (vs.length : Int)) = false := by simp
  have hne : ((vs.length : Int) == (vs.length : Int)) = true := by simp
  obtain ⟨o, f, h1, h2⟩ := One_pair vs (by omega)
  have H1 := Lib.hid h1
  have H2 := Lib.hid h2
  clear h1 h2
  have hKS : Keeps (fun w' => Below w.heap.size w w' ∧ (w.heap.size < w'.heap.size ∧ w'.cell? ⟨w.heap.size, 0, none⟩ = some (.slice p vs.length c) ∧ w'.cell? ⟨w.heap.size, 1, none⟩ = some (.bool sc))) := (keeps_below _).and (keeps_cells _ _ _)
  have hKst : ∀ (w' : World) (g : Nat) (x y : Value), w.heap.size < g → (Below w.heap.size w w' ∧ (w.heap.size < w'.heap.size ∧ w'.cell? ⟨w.heap.size, 0, none⟩ = some (.slice p vs.length c) ∧ w'.cell? ⟨w.heap.size, 1, none⟩ = some (.bool sc))) →
      (fun w' => Below w.heap.size w w' ∧ (w.heap.size < w'.heap.size ∧ w'.cell? ⟨w.heap.size, 0, none⟩ = some (.slice p vs.length c) ∧ w'.cell? ⟨w.heap.size, 1, none⟩ = some (.bool sc))) ((w'.setCell ⟨g, 0, none⟩ x).setCell ⟨g, 1, none⟩ y) := by
    rintro w' g x y hg ⟨k1, k2, k3, k4⟩
    have hA := ((⟨k2, k3, k4⟩ : Sp2 w' w.heap.size (.slice p vs.length c) sc).set_far (a := ⟨g, 0, none⟩) (by show g ≠ _; omega) x).set_far (a := ⟨g, 1, none⟩) (by show g ≠ _; omega) y
    exact ⟨(k1.setCell (p := ⟨g, 0, none⟩) (Nat.le_of_lt hg) _).setCell (p := ⟨g, 1, none⟩) (Nat.le_of_lt hg) _, hA.lt, hA.c0, hA.c1⟩
  have hKal : ∀ (w' : World) (o o' : Obj), w.heap.size < w'.heap.size → (fun w' => Below w.heap.size w w' ∧ (w.heap.size < w'.heap.size ∧ w'.cell? ⟨w.heap.size, 0, none⟩ = some (.slice p vs.length c) ∧ w'.cell? ⟨w.heap.size, 1, none⟩ = some (.bool sc))) (w'.alloc o) → (fun w' => Below w.heap.size w w' ∧ (w.heap.size < w'.heap.size ∧ w'.cell? ⟨w.heap.size, 0, none⟩ = some (.slice p vs.length c) ∧ w'.cell? ⟨w.heap.size, 1, none⟩ = some (.bool sc))) (w'.alloc o') := by
    rintro w' o o' hlt ⟨k1, k2, k3, k4⟩
    have hA := (⟨k2, k3, k4⟩ : Sp2 (w'.alloc o) w.heap.size (.slice p vs.length c) sc).unalloc hlt
    exact hKS w' _ ⟨below_unalloc k1 (Nat.le_of_lt hlt) (Nat.le_of_lt hlt), hA.lt, hA.c0, hA.c1⟩ (below_alloc _ _)
  go_enter Try.func5, Try.ntmps5
  go_wp2_with fail
  refine (awake12 _).mono ?_
  rintro e1 w1 ⟨rfl, hb1⟩
  have A := A.keep hb1
  have hb := below_1 hb1
  clear hb1
  have hS := hKS _ _ ⟨hb, A.lt, A.c0, A.c1⟩ (Below.refl _ _)
  have hsz := A.lt
  have q0 := A.c0
  go_upto_region 3 with fail
  clear q0
  go_cut [5] (fun s5 wx => ∃ (g : Nat) (pv : Option Addr) (cv : Nat), s5 = .pointer (some ⟨g, 0, none⟩) ∧ Sp2 wx g (.slice pv vs.length cv) sc ∧ Ints wx pv vs ∧ Sp2 wx w.heap.size (.slice p vs.length c) sc ∧ Below w.heap.size w wx)
  case first =>
    refine wp_region_noPanic ?_
    refine wp_region_held_drew (S := (fun w' => Below w.heap.size w w' ∧ (w.heap.size < w'.heap.size ∧ w'.cell? ⟨w.heap.size, 0, none⟩ = some (.slice p vs.length c) ∧ w'.cell? ⟨w.heap.size, 1, none⟩ = some (.bool sc)))) (by kernel_rfl) ?_ (fun hHeld => ?_)
    · (try dsimp only); first | exact hKS _ _ (by first | exact hHeld | exact hS) (by first | assumption | (go_grown; done) | (refine from_drew ?_; go_grown; done)) | exact hKst _ _ _ _ (by have := hHeld.2.1; simp; omega) hHeld | exact hKal w2 _ _ (by omega) hHeld
    refine takeH 1 (some 21) (v := ?_) rfl rfl (by kernel_rfl) (by kernel_rfl) (by kernel_rfl) (by rfl) ?_ (by exact hHeld) ?_
    rotate_left
    · intro w hSw; (try dsimp only at hSw); go_simp; try (with_reducible rfl)
    try simp only [Act.put, List.setIfInBounds_toArray, List.set_cons_zero, List.set_cons_succ]
    refine takeH 2 (some 22) (v := ?_) rfl rfl (by kernel_rfl) (by kernel_rfl) (by kernel_rfl) (by rfl) ?_ (by exact hHeld) ?_
    rotate_left
    · intro w hSw; (try dsimp only at hSw); go_simp; try (with_reducible rfl)
    try simp only [Act.put, List.setIfInBounds_toArray, List.set_cons_zero, List.set_cons_succ]
    refine takeH 4 (some 24) (v := ?_) rfl rfl (by kernel_rfl) (by kernel_rfl) (by kernel_rfl) (by rfl) ?_ (by exact hHeld) ?_
    rotate_left
    · intro w hSw; (try dsimp only at hSw); go_simp; try (with_reducible rfl)
    try simp only [Act.put, List.setIfInBounds_toArray, List.set_cons_zero, List.set_cons_succ]
    refine takeH 5 (some 25) (v := ?_) rfl rfl (by kernel_rfl) (by kernel_rfl) (by kernel_rfl) (by rfl) ?_ (by exact hHeld) ?_
    rotate_left
    · intro w hSw; (try dsimp only at hSw); go_simp; try (with_reducible rfl)
    try simp only [Act.put, List.setIfInBounds_toArray, List.set_cons_zero, List.set_cons_succ]
    refine wpAnyH_ready (rs := [0, 7]) (by kernel_rfl) (by simp) ?_
    refine stepH 0 rfl (by rfl) (fun K hK => ?_) ?_
    · go_simp
      refine hK.out _ _ ?_ (fun hNew => ?_)
      · (try dsimp only); first | exact hKS _ _ (by first | exact hHeld | exact hS) (by first | assumption | (go_grown; done) | (refine from_drew ?_; go_grown; done)) | exact hKst _ _ _ _ (by have := hHeld.2.1; simp; omega) hHeld | exact hKal w2 _ _ (by omega) hHeld
      clear hK K hHeld
      have hHeld := hNew
      clear hNew
      try dsimp only at hHeld
      try simp only [Act.put, List.setIfInBounds_toArray, List.set_cons_zero, List.set_cons_succ]
      refine wpAnyH_ready (rs := [3, 7]) (by kernel_rfl) (by simp) ?_
      refine stepH 3 rfl (by rfl) (fun K hK => ?_) ?_
      · (refine wp_fresh_i64 _ _ rfl _ p c vs rfl rfl ?_ (by omega) ?_); (exact (h.keep hHeld.1).cells); intro p1 c1 w2 hn1 hb2; obtain ⟨hc1, hf1⟩ := bcell hb2; have hs2 := hb2.size; try simp at hs2
        refine hK.out _ _ ?_ (fun hNew => ?_)
        · (try dsimp only); first | exact hKS _ _ (by first | exact hHeld | exact hS) (by first | assumption | (go_grown; done) | (refine from_drew ?_; go_grown; done)) | exact hKst _ _ _ _ (by have := hHeld.2.1; simp; omega) hHeld | exact hKal w2 _ _ (by omega) hHeld
        clear hK K hHeld
        have hHeld := hNew
        clear hNew
        try dsimp only at hHeld
        try simp only [Act.put, List.setIfInBounds_toArray, List.set_cons_zero, List.set_cons_succ]
        refine takeH 6 (some 26) (v := ?_) rfl rfl (by kernel_rfl) (by kernel_rfl) (by kernel_rfl) (by rfl) ?_ (by exact hHeld) ?_
        rotate_left
        · intro w hSw; (try dsimp only at hSw); go_simp; try (with_reducible rfl)
        try simp only [Act.put, List.setIfInBounds_toArray, List.set_cons_zero, List.set_cons_succ]
        refine wpAnyH_ready (rs := [7]) (by kernel_rfl) (by simp) ?_
        refine stepH 7 rfl (by rfl) (fun K hK => ?_) ?_
        · go_simp
          refine hK.out _ _ ?_ (fun hNew => ?_)
          · (try dsimp only); first | exact hKS _ _ (by first | exact hHeld | exact hS) (by first | assumption | (go_grown; done) | (refine from_drew ?_; go_grown; done)) | exact hKst _ _ _ _ (by have := hHeld.2.1; simp; omega) hHeld | exact hKal w2 _ _ (by omega) hHeld
          clear hK K hHeld
          have hHeld := hNew
          clear hNew
          try dsimp only at hHeld
          try simp only [Act.put, List.setIfInBounds_toArray, List.set_cons_zero, List.set_cons_succ]
          refine wpAnyH_ready (rs := [8]) (by kernel_rfl) (by simp) ?_
          refine stepH 8 rfl (by rfl) (fun K hK => ?_) ?_
          · go_simp
            refine hK.out _ _ ?_ (fun hNew => ?_)
            · (try dsimp only); first | exact hKS _ _ (by first | exact hHeld | exact hS) (by first | assumption | (go_grown; done) | (refine from_drew ?_; go_grown; done)) | exact hKst _ _ _ _ (by have := hHeld.2.1; simp; omega) hHeld | exact hKal w2 _ _ (by omega) hHeld
            clear hK K hHeld
            have hHeld := hNew
            clear hNew
            try dsimp only at hHeld
            try simp only [Act.put, List.setIfInBounds_toArray, List.set_cons_zero, List.set_cons_succ]
            refine wpAnyH_done (by kernel_rfl) ?_ _
            refine NoPanic.normal ?_
            go_wp2_with fail
            go_meet
            first | exact ⟨_, p1, c1, rfl, Sp2.new w2 _ _ _ _ rfl, (hn1.ints h.i64 h.small).keep (below_alloc _ _), ⟨hHeld.2.1, hHeld.2.2.1, hHeld.2.2.2⟩, hHeld.1⟩ | (have hlt2 : w1.heap.size < w1.heap.size + 1 + 1 := (by omega); exact ⟨_, p1, c1, rfl, sp2_set (by first | omega | (simp; done) | (simp; omega)) (u := .slice none 0 0) (u' := .bool false) (by simp [go_sem, hc1, hlt2]) (by simp [go_sem, hc1, hlt2]) _ _, ((hn1.other (by first | (simp; done) | (simp; omega)) _).other (by first | (simp; done) | (simp; omega)) _).ints h.i64 h.small, ⟨hHeld.2.1, hHeld.2.2.1, hHeld.2.2.2⟩, hHeld.1⟩)
          exact AllReadyH.nil
        exact AllReadyH.nil
      refine stepH 7 rfl (by rfl) (fun K hK => ?_) ?_
      · go_simp
        refine hK.out _ _ ?_ (fun hNew => ?_)
        · (try dsimp only); first | exact hKS _ _ (by first | exact hHeld | exact hS) (by first | assumption | (go_grown; done) | (refine from_drew ?_; go_grown; done)) | exact hKst _ _ _ _ (by have := hHeld.2.1; simp; omega) hHeld | exact hKal w2 _ _ (by omega) hHeld
        clear hK K hHeld
        have hHeld := hNew
        clear hNew
        try dsimp only at hHeld
        try simp only [Act.put, List.setIfInBounds_toArray, List.set_cons_zero, List.set_cons_succ]
        refine wpAnyH_ready (rs := [3]) (by kernel_rfl) (by simp) ?_
        refine stepH 3 rfl (by rfl) (fun K hK => ?_) ?_
        · (refine wp_fresh_i64 _ _ rfl _ p c vs rfl rfl ?_ (by omega) ?_); (exact (h.keep hHeld.1).cells); intro p1 c1 w2 hn1 hb2; obtain ⟨hc1, hf1⟩ := bcell hb2; have hs2 := hb2.size; try simp at hs2
          refine hK.out _ _ ?_ (fun hNew => ?_)
          · (try dsimp only); first | exact hKS _ _ (by first | exact hHeld | exact hS) (by first | assumption | (go_grown; done) | (refine from_drew ?_; go_grown; done)) | exact hKst _ _ _ _ (by have := hHeld.2.1; simp; omega) hHeld | exact hKal w2 _ _ (by omega) hHeld
          clear hK K hHeld
          have hHeld := hNew
          clear hNew
          try dsimp only at hHeld
          try simp only [Act.put, List.setIfInBounds_toArray, List.set_cons_zero, List.set_cons_succ]
          refine takeH 6 (some 26) (v := ?_) rfl rfl (by kernel_rfl) (by kernel_rfl) (by kernel_rfl) (by rfl) ?_ (by exact hHeld) ?_
          rotate_left
          · intro w hSw; (try dsimp only at hSw); go_simp; try (with_reducible rfl)
          try simp only [Act.put, List.setIfInBounds_toArray, List.set_cons_zero, List.set_cons_succ]
          refine wpAnyH_ready (rs := [8]) (by kernel_rfl) (by simp) ?_
          refine stepH 8 rfl (by rfl) (fun K hK => ?_) ?_
          · go_simp
            refine hK.out _ _ ?_ (fun hNew => ?_)
            · (try dsimp only); first | exact hKS _ _ (by first | exact hHeld | exact hS) (by first | assumption | (go_grown; done) | (refine from_drew ?_; go_grown; done)) | exact hKst _ _ _ _ (by have := hHeld.2.1; simp; omega) hHeld | exact hKal w2 _ _ (by omega) hHeld
            clear hK K hHeld
            have hHeld := hNew
            clear hNew
            try dsimp only at hHeld
            try simp only [Act.put, List.setIfInBounds_toArray, List.set_cons_zero, List.set_cons_succ]
            refine wpAnyH_done (by kernel_rfl) ?_ _
            refine NoPanic.normal ?_
            go_wp2_with fail
            go_meet
            first | exact ⟨_, p1, c1, rfl, Sp2.new w2 _ _ _ _ rfl, (hn1.ints h.i64 h.small).keep (below_alloc _ _), ⟨hHeld.2.1, hHeld.2.2.1, hHeld.2.2.2⟩, hHeld.1⟩ | (have hlt2 : w1.heap.size < w1.heap.size + 1 + 1 := (by omega); exact ⟨_, p1, c1, rfl, sp2_set (by first | omega | (simp; done) | (simp; omega)) (u := .slice none 0 0) (u' := .bool false) (by simp [go_sem, hc1, hlt2]) (by simp [go_sem, hc1, hlt2]) _ _, ((hn1.other (by first | (simp; done) | (simp; omega)) _).other (by first | (simp; done) | (simp; omega)) _).ints h.i64 h.small, ⟨hHeld.2.1, hHeld.2.2.1, hHeld.2.2.2⟩, hHeld.1⟩)
          exact AllReadyH.nil
        exact AllReadyH.nil
      exact AllReadyH.nil
    refine stepH 7 rfl (by rfl) (fun K hK => ?_) ?_
    · go_simp
      refine hK.out _ _ ?_ (fun hNew => ?_)
      · (try dsimp only); first | exact hKS _ _ (by first | exact hHeld | exact hS) (by first | assumption | (go_grown; done) | (refine from_drew ?_; go_grown; done)) | exact hKst _ _ _ _ (by have := hHeld.2.1; simp; omega) hHeld | exact hKal w2 _ _ (by omega) hHeld
      clear hK K hHeld
      have hHeld := hNew
      clear hNew
      try dsimp only at hHeld
      try simp only [Act.put, List.setIfInBounds_toArray, List.set_cons_zero, List.set_cons_succ]
      refine wpAnyH_ready (rs := [0]) (by kernel_rfl) (by simp) ?_
      refine stepH 0 rfl (by rfl) (fun K hK => ?_) ?_
      · go_simp
        refine hK.out _ _ ?_ (fun hNew => ?_)
        · (try dsimp only); first | exact hKS _ _ (by first | exact hHeld | exact hS) (by first | assumption | (go_grown; done) | (refine from_drew ?_; go_grown; done)) | exact hKst _ _ _ _ (by have := hHeld.2.1; simp; omega) hHeld | exact hKal w2 _ _ (by omega) hHeld
        clear hK K hHeld
        have hHeld := hNew
        clear hNew
        try dsimp only at hHeld
        try simp only [Act.put, List.setIfInBounds_toArray, List.set_cons_zero, List.set_cons_succ]
        refine wpAnyH_ready (rs := [3]) (by kernel_rfl) (by simp) ?_
        refine stepH 3 rfl (by rfl) (fun K hK => ?_) ?_
        · (refine wp_fresh_i64 _ _ rfl _ p c vs rfl rfl ?_ (by omega) ?_); (exact (h.keep hHeld.1).cells); intro p1 c1 w2 hn1 hb2; obtain ⟨hc1, hf1⟩ := bcell hb2; have hs2 := hb2.size; try simp at hs2
          refine hK.out _ _ ?_ (fun hNew => ?_)
          · (try dsimp only); first | exact hKS _ _ (by first | exact hHeld | exact hS) (by first | assumption | (go_grown; done) | (refine from_drew ?_; go_grown; done)) | exact hKst _ _ _ _ (by have := hHeld.2.1; simp; omega) hHeld | exact hKal w2 _ _ (by omega) hHeld
          clear hK K hHeld
          have hHeld := hNew
          clear hNew
          try dsimp only at hHeld
          try simp only [Act.put, List.setIfInBounds_toArray, List.set_cons_zero, List.set_cons_succ]
          refine takeH 6 (some 26) (v := ?_) rfl rfl (by kernel_rfl) (by kernel_rfl) (by kernel_rfl) (by rfl) ?_ (by exact hHeld) ?_
          rotate_left
          · intro w hSw; (try dsimp only at hSw); go_simp; try (with_reducible rfl)
          try simp only [Act.put, List.setIfInBounds_toArray, List.set_cons_zero, List.set_cons_succ]
          refine wpAnyH_ready (rs := [8]) (by kernel_rfl) (by simp) ?_
          refine stepH 8 rfl (by rfl) (fun K hK => ?_) ?_
          · go_simp
            refine hK.out _ _ ?_ (fun hNew => ?_)
            · (try dsimp only); first | exact hKS _ _ (by first | exact hHeld | exact hS) (by first | assumption | (go_grown; done) | (refine from_drew ?_; go_grown; done)) | exact hKst _ _ _ _ (by have := hHeld.2.1; simp; omega) hHeld | exact hKal w2 _ _ (by omega) hHeld
            clear hK K hHeld
            have hHeld := hNew
            clear hNew
            try dsimp only at hHeld
            try simp only [Act.put, List.setIfInBounds_toArray, List.set_cons_zero, List.set_cons_succ]
            refine wpAnyH_done (by kernel_rfl) ?_ _
            refine NoPanic.normal ?_
            go_wp2_with fail
            go_meet
            first | exact ⟨_, p1, c1, rfl, Sp2.new w2 _ _ _ _ rfl, (hn1.ints h.i64 h.small).keep (below_alloc _ _), ⟨hHeld.2.1, hHeld.2.2.1, hHeld.2.2.2⟩, hHeld.1⟩ | (have hlt2 : w1.heap.size < w1.heap.size + 1 + 1 := (by omega); exact ⟨_, p1, c1, rfl, sp2_set (by first | omega | (simp; done) | (simp; omega)) (u := .slice none 0 0) (u' := .bool false) (by simp [go_sem, hc1, hlt2]) (by simp [go_sem, hc1, hlt2]) _ _, ((hn1.other (by first | (simp; done) | (simp; omega)) _).other (by first | (simp; done) | (simp; omega)) _).ints h.i64 h.small, ⟨hHeld.2.1, hHeld.2.2.1, hHeld.2.2.2⟩, hHeld.1⟩)
          exact AllReadyH.nil
        exact AllReadyH.nil
      exact AllReadyH.nil
    exact AllReadyH.nil
  case rest =>
    obtain ⟨g, pv, cv, rfl, O, iv, A, hb⟩ := hcut
    have ip := h.keep hb
    clear hKS hKst hKal hS
    have o0 := O.c0
    have o1 := O.c1
    go_wp2_with fail
    clear o0 o1
    refine (Exactly_yes pv cv vs sc _ iv (by omega)).mono ?_
    rintro e2 w2 ⟨⟨q, cq, rfl, hnew⟩, hbc⟩
    have o0 := (O.keep hbc).c0
    have o1 := (O.keep hbc).c1
    go_wp2_with fail
    clear o0 o1
    refine (H1.out _ _ _ _ (iv.keep hbc)).mono ?_
    rintro e3 w3 ⟨rfl, hb1⟩
    have hnew := hnew.keep' hb1
    have hbc := below_t hbc hb1
    have a0 := (A.keep hbc).c0
    have a1 := (A.keep hbc).c1
    clear hb1
    go_wp2_with fail
    clear a0 a1
    refine (SpSame_yes q p cq c vs sc _ (hnew.ints h.i64 h.small) (ip.keep hbc) (by omega)).mono ?_
    rintro e4 w4 ⟨rfl, hb1⟩
    have hnew := hnew.keep' hb1
    have hbc := below_t hbc hb1
    clear hb1
    go_wp2_with fail
    go_loopw [10] (fun i wr => ∃ (k : Nat) (us : List Int), k ≤ vs.length ∧ i = .int .i64 k ∧ Hid (us.length = vs.length) ∧ New wc.heap.size wr q 2 (us.map (.int .i64)) ∧ Below wc.heap.size wc wr) (fun i _ => vs.length - (intOf i).toNat)
    case atStart => exact ⟨0, vs, Nat.zero_le _, rfl, rfl, hnew, hbc⟩
    case round =>
      obtain ⟨k, us, hk, rfl, hul, hnw, hbw⟩ := hrel
      clear hnew hbc
      by_cases hlt : k < vs.length
      · have hku : k < us.length := by rw [hul.out]; exact hlt
        rcases hnw with h0 | ⟨g3, rfl, hB, ho⟩
        · have : us = [] := by simpa using h0
          subst this
          simp at hku
        · have hcell := ho.cell (nth_row hku)
          have hfr := ho.frozen k
          have hki : (k : Int) < (vs.length : Int) := by omega
          obtain ⟨x, hx⟩ : ∃ x, nth us k = x := ⟨_, rfl⟩
          rw [hx] at hcell
          clear hx
          go_wp2_with fail
          go_roundw
          case rel => exact ⟨k + 1, us.set k (wrap64 (x + 1)), by omega, by go_num, (by rw [List.length_set]; exact hul.out), .inr ⟨g3, rfl, hB, by rw [← row_set]; exact ho.set (by simpa using hku) _⟩, hbw.setCell (p := ⟨g3, k, none⟩) hB _⟩
          case measure => simp [intOf]; omega
      · have hki : ¬ (k : Int) < (vs.length : Int) := by omega
        have O := O.keep hbw
        have A := A.keep hbw
        have o0 := O.c0
        have o1 := O.c1
        have a0 := A.c0
        have a1 := A.c1
        go_wp2_with fail
        clear o0 o1 a0 a1
        refine (SpSame_yes pv p cv c vs sc _ (iv.keep hbw) (ip.keep hbw) (by omega)).mono ?_
        rintro e5 w5 ⟨rfl, hb1⟩
        have A := A.keep hb1
        have ip := (ip.keep hbw).keep hb1
        have hb := below_t (below_t hb hbw) hb1
        have a0 := A.c0
        rcases H2.out with ⟨e1, e2, e3⟩ | ⟨e1, e2, e3⟩
        · have e1' : (vs.length : Int) = 1 := by omega
          have hk : 0 < vs.length := by omega
          obtain ⟨b1, o1, rfl, -, hc1⟩ := ip.at hk
          rw [← e2] at hc1
          have hc2 : w5.cell? ⟨b1, o1, none⟩ = some (.int .i64 o) := hc1
          have hv1 : ((vs.length : Int) != 1) = false := by simp [e1']
          have hl1 : (0 : Int) < (vs.length : Int) := by omega
          have hoo : (o == o) = true := by simp
          subst e3
          clear e1 e1' e2 hc1 H2
          go_wp2_with fail
          go_ret
          exact ⟨rfl, hb⟩
        · have hv1 : ((vs.length : Int) != 1) = true := by simp; omega
          subst e2 e3
          clear e1 H2
          go_wp2_with fail
          go_ret
          exact ⟨rfl, hb⟩

set_option maxHeartbeats 1000000 in
theorem SpecNumbers_law (p : Option Addr) (c : Nat) (vs : List Int) (sc : Bool) (n : Int) (w : World) (h : Ints w p vs) (_hn : I64 n) :
    Calls Try.prog 5 #[.agg #[.slice p vs.length c, .bool sc], .int .i64 n] w fun e w' => e = .returned (.bool true) ∧ Below w.heap.size w w' := by
  by_cases hl : 300 < vs.length
  · have hsm := h.small
    have A := Sp2.new w _ (.slice p vs.length c) sc 24 rfl
    have hd : decide (300 < (vs.length : Int)) = true := decide_eq_true (by omega)
    go_enter Try.func5, Try.ntmps5
    go_wp2_with fail
    refine (awake12 _).mono ?_
    rintro e1 w1 ⟨rfl, hb1⟩
    have A := A.keep hb1
    have hb := below_1 hb1
    clear hb1
    have q0 := A.c0
    go_wp2_with fail
    clear q0
    refine (awake12 _).mono ?_
    rintro e2 w2 ⟨rfl, hb1⟩
    have hb := below_t hb hb1
    clear hb1
    go_wp2_with fail
    go_ret
    exact ⟨rfl, hb⟩
  · by_cases hn : (vs.length : Int) = n
    · subst hn
      exact SpecNumbers_yes p c vs sc w h (by omega)
    · exact SpecNumbers_len p c vs sc n w h (by omega) hn
end Go.Proofs.Ytolkgjbljdmadaa
