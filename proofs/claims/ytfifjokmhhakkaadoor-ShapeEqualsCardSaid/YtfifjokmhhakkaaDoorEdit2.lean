/- shape.edited: a part of a list replaced. No condition beyond what each says. -/
import Derived.Test.YtfifjokmhhakkaaDoorEdit1
import Derived.Test.YtfifjokmhhakkaaDoorKeep6
import Derived.Deep.DeepCutAuto
namespace Go.Proofs.YtfifjokmhhakkaaDoor
open Go.RowKit Go.Shelf
set_option linter.unusedVariables false
set_option linter.unusedSimpArgs false

/-- a call that returns a new list of numbers, and no error -/
def EditRet (L : List Int) (n : Nat) (w : World) (e : Ending) (w' : World) : Prop :=
  (∃ q cap, e = .returned (.tuple #[.slice q n cap, .int .i64 0]) ∧ New w.heap.size w' q 3 (L.map (.int .i64)) ∧ Bds q n cap) ∧ Below w.heap.size w w'
theorem Concat_is (b : Nat) (p0 p1 p2 : Option Addr) (c0 c1 c2 : Nat) (xs ys zs : List Int) (n0 n1 n2 : Nat) (e0 : xs.length = n0) (e1 : ys.length = n1) (e2 : zs.length = n2) (hl : n0 + n1 + n2 ≤ 1000000) (w : World) (h0 : Ints w p0 xs) (h1 : Ints w p1 ys) (h2 : Ints w p2 zs)
    (ho : Own w b 22 [.slice p0 n0 c0, .slice p1 n1 c1, .slice p2 n2 c2]) :
    Calls Tryd.prog 42 #[.slice (some ⟨b, 0, none⟩) 3 3] w (ListRet w.heap.size (xs ++ ys ++ zs) (n0 + n1 + n2) w) := by
  subst e0 e1 e2
  exact Concat3 b p0 p1 p2 c0 c1 c2 xs ys zs hl w h0 h1 h2 (ho.cell (i := 0) rfl) (ho.cell (i := 1) rfl) (ho.cell (i := 2) rfl) ho.lt
theorem One_closure (g : Nat) (x : Int) (w : World) (hc : w.cell? ⟨g, 0, none⟩ = some (.int .i64 x)) :
    Calls Tryd.prog 43 #[.pointer (some ⟨g, 0, none⟩)] w fun e w' => (∃ q, e = .returned (.slice (some ⟨q, 0, none⟩) 1 1) ∧ Own w' q 3 [.int .i64 x]) ∧ Below w.heap.size w w' := by
  go_enter Tryd.func43, Tryd.ntmps43
  go_wp2_with fail
  go_ret
  exact ⟨⟨_, rfl, Own.made w _ [.int .i64 x] _ rfl⟩, below_alloc _ _⟩
theorem own_one {w z : World} {q : Nat} {x : Int} (h : Own w q 3 [.int .i64 x]) (hx : I64 x) (hb : Below w.heap.size w z) : Ints z (some ⟨q, 0, none⟩) [x] :=
  New.ints (B := 0) (e := 3) (.inr ⟨q, rfl, Nat.zero_le _, h.keep hb h.lt⟩) (fun y hy => by rw [List.mem_singleton] at hy; subst hy; exact hx) (by simp)
theorem cells_part {w : World} {b o : Nat} {xs : List Int} (h : Ints w (some ⟨b, o, none⟩) xs) (f : Nat) : Ints w (some ⟨b, o, none⟩) (xs.take f) := by
  refine ⟨?_, fun x hx => h.i64 x (List.mem_of_mem_take hx), Nat.le_trans (by rw [List.length_take]; omega) h.small⟩
  rcases h.cells with h' | ⟨b', o', hp, hlt, hc⟩
  · refine .inl ?_
    have : xs = [] := by simpa using h'
    subst this
    simp
  · refine .inr ⟨b', o', hp, hlt, fun i u hu => hc i u ?_⟩
    rw [List.map_take, List.getElem?_take] at hu
    split at hu
    · exact hu
    · cases hu
theorem cells_rest {w : World} {b o : Nat} {xs : List Int} (h : Ints w (some ⟨b, o, none⟩) xs) (t c : Nat) (ht : t ≤ xs.length) (hc : xs.length ≤ c) : Ints w (if c = t then some ⟨b, o, none⟩ else some ⟨b, o + t, none⟩) (xs.drop t) := by
  refine ⟨?_, fun x hx => h.i64 x (List.mem_of_mem_drop hx), Nat.le_trans (by rw [List.length_drop]; omega) h.small⟩
  split
  · refine .inl ?_
    rw [List.drop_eq_nil_of_le (by omega)]
    rfl
  · rcases h.cells with h' | ⟨b', o', hp, hlt, hcc⟩
    · refine .inl ?_
      have : xs = [] := by simpa using h'
      subst this
      simp
    · cases hp
      refine .inr ⟨b, o + t, rfl, hlt, fun i u hu => ?_⟩
      rw [List.map_drop, List.getElem?_drop] at hu
      rw [Nat.add_assoc]
      exact hcc (t + i) u hu
theorem One_any (x : Int) (w : World) :
    Calls Tryd.prog 31 #[.int .i64 x] w fun e w' => e = .returned (.func (.func 43) #[] #[.pointer (some ⟨w.heap.size, 0, none⟩)]) ∧ w.alloc (.cells #[.int .i64 x] 3) = w' := by
  go_enter Tryd.func31, Tryd.ntmps31
  go_wp2_with fail
  go_ret
  exact ⟨rfl, rfl⟩

theorem None_closure (w : World) : Calls Tryd.prog 32 #[] w fun e w' => e = .returned (.slice none 0 0) ∧ Below w.heap.size w w' := by
  go_enter Tryd.func32, Tryd.ntmps32
  go_wp2_with fail
  go_ret
  exact ⟨rfl, Below.refl _ _⟩
set_option maxRecDepth 100000 in
set_option maxHeartbeats 2000000 in
theorem Edited_one (b o c : Nat) (xs : List Int) (f t : Nat) (L : List Int) (hft : f ≤ t) (ht : t ≤ xs.length) (hl : xs.length ≤ 1000) (hc : xs.length ≤ c) (hc63 : c ≤ 9223372036854775807) (g : Nat) (x : Int) (hx : I64 x) (hL : xs.take f ++ [x] ++ xs.drop t = L) (w : World) (h : Ints w (some ⟨b, o, none⟩) xs) (hg : g < w.heap.size) (cg : w.cell? ⟨g, 0, none⟩ = some (.int .i64 x)) :
    Calls Tryd.prog 30 #[.slice (some ⟨b, o, none⟩) xs.length c, .int .i64 f, .int .i64 t, .func (.func 43) #[] #[.pointer (some ⟨g, 0, none⟩)]] w (EditRet L (f + 1 + (xs.length - t)) w) := by
  have HL := Lib.hid hL
  clear hL
  have d1 : decide ((f : Int) < 0) = false := by simp
  have d2 : decide ((xs.length : Int) < (t : Int)) = false := by simp; omega
  have d3 : decide ((t : Int) < (f : Int)) = false := by simp; omega
  have hf1 : (f : Int) ≤ (c : Int) := by omega
  have hf2 : (t : Int) ≤ (xs.length : Int) := by omega
  have hf3 : (xs.length : Int) ≤ (c : Int) := by omega
  go_enter Tryd.func30, Tryd.ntmps30
  go_upto_region 3 with fail
  have hKS : Keeps (fun w' => (g < w'.heap.size ∧ w'.cell? ⟨g, 0, none⟩ = some (.int .i64 x)) ∧ Below w.heap.size w w') := (keeps_cell _ _ _).and (keeps_below w)
  have hS : (fun w' => (g < w'.heap.size ∧ w'.cell? ⟨g, 0, none⟩ = some (.int .i64 x)) ∧ Below w.heap.size w w') w := ⟨⟨hg, cg⟩, Below.refl _ _⟩
  refine wp_region_noPanic ?_
  refine wp_region_held_drew (S := (fun w' => (g < w'.heap.size ∧ w'.cell? ⟨g, 0, none⟩ = some (.int .i64 x)) ∧ Below w.heap.size w w')) (by kernel_rfl) ?_ (fun hHeld => ?_)
  · (try dsimp only); exact hKS _ _ (by first | exact hHeld | exact hS) (by first | assumption | (go_grown; done) | (refine from_drew ?_; go_grown; done))
  refine takeH 0 (some 23) (v := ?_) rfl rfl (by kernel_rfl) (by kernel_rfl) (by kernel_rfl) (by rfl) ?_ (by exact hHeld) ?_
  rotate_left
  · intro w hSw; (try dsimp only at hSw); go_simp; try (with_reducible rfl)
  try simp only [Act.put, List.setIfInBounds_toArray, List.set_cons_zero, List.set_cons_succ]
  refine takeH 1 (some 24) (v := ?_) rfl rfl (by kernel_rfl) (by kernel_rfl) (by kernel_rfl) (by rfl) ?_ (by exact hHeld) ?_
  rotate_left
  · intro w hSw; (try dsimp only at hSw); go_simp; try (with_reducible rfl)
  try simp only [Act.put, List.setIfInBounds_toArray, List.set_cons_zero, List.set_cons_succ]
  refine takeH 2 (some 25) (v := ?_) rfl rfl (by kernel_rfl) (by kernel_rfl) (by kernel_rfl) (by rfl) ?_ (by exact hHeld) ?_
  rotate_left
  · intro w hSw; (try dsimp only at hSw); go_simp; try (with_reducible rfl)
  try simp only [Act.put, List.setIfInBounds_toArray, List.set_cons_zero, List.set_cons_succ]
  refine takeH 3 (some 26) (v := ?_) rfl rfl (by kernel_rfl) (by kernel_rfl) (by kernel_rfl) (by rfl) ?_ (by exact hHeld) ?_
  rotate_left
  · intro w hSw; (try dsimp only at hSw); go_simp; try (with_reducible rfl)
  try simp only [Act.put, List.setIfInBounds_toArray, List.set_cons_zero, List.set_cons_succ]
  refine takeH 5 (some 28) (v := ?_) rfl rfl (by kernel_rfl) (by kernel_rfl) (by kernel_rfl) (by rfl) ?_ (by exact hHeld) ?_
  rotate_left
  · intro w hSw; (try dsimp only at hSw); go_simp; try (with_reducible rfl)
  try simp only [Act.put, List.setIfInBounds_toArray, List.set_cons_zero, List.set_cons_succ]
  refine takeH 6 (some 29) (v := ?_) rfl rfl (by kernel_rfl) (by kernel_rfl) (by kernel_rfl) (by rfl) ?_ (by exact hHeld) ?_
  rotate_left
  · intro w hSw; (try dsimp only at hSw); go_simp; try (with_reducible rfl)
  try simp only [Act.put, List.setIfInBounds_toArray, List.set_cons_zero, List.set_cons_succ]
  refine takeH 7 (some 30) (v := ?_) rfl rfl (by kernel_rfl) (by kernel_rfl) (by kernel_rfl) (by rfl) ?_ (by exact hHeld) ?_
  rotate_left
  · intro w hSw; (try dsimp only at hSw); go_simp; try (with_reducible rfl)
  try simp only [Act.put, List.setIfInBounds_toArray, List.set_cons_zero, List.set_cons_succ]
  refine wpAnyH_ready (rs := [4]) (by kernel_rfl) (by simp) ?_
  refine stepH 4 rfl (by rfl) (fun K hK => ?_) ?_
  · go_simp
    ((with_reducible refine (One_closure g x _ ?_).mono ?_); (exact hHeld.1.2); rintro e4 w4 ⟨⟨q4, rfl, o4⟩, hb4⟩)
    refine hK.out _ _ ?_ (fun hNew => ?_)
    · (try dsimp only); exact hKS _ _ (by first | exact hHeld | exact hS) (by first | assumption | (go_grown; done) | (refine from_drew ?_; go_grown; done))
    clear hK K hHeld
    have hHeld := hNew
    clear hNew
    try dsimp only at hHeld
    try simp only [Act.put, List.setIfInBounds_toArray, List.set_cons_zero, List.set_cons_succ]
    refine wpAnyH_ready (rs := [8]) (by kernel_rfl) (by simp) ?_
    refine stepH 8 rfl (by rfl) (fun K hK => ?_) ?_
    · go_simp
      refine hK.out _ _ ?_ (fun hNew => ?_)
      · (try dsimp only); exact hKS _ _ (by first | exact hHeld | exact hS) (by first | assumption | (go_grown; done) | (refine from_drew ?_; go_grown; done))
      clear hK K hHeld
      have hHeld := hNew
      clear hNew
      try dsimp only at hHeld
      try simp only [Act.put, List.setIfInBounds_toArray, List.set_cons_zero, List.set_cons_succ]
      refine wpAnyH_ready (rs := [9]) (by kernel_rfl) (by simp) ?_
      refine stepH 9 rfl (by rfl) (fun K hK => ?_) ?_
      · go_simp
        ((with_reducible refine (Concat_is w4.heap.size (some ⟨b, o, none⟩) (some ⟨q4, 0, none⟩) (if c = t then some ⟨b, o, none⟩ else some ⟨b, o + t, none⟩) c 1 (c - t) (xs.take f) [x] (xs.drop t) f 1 (xs.length - t) ?_ rfl ?_ ?_ _ ?_ ?_ ?_ ?_).mono ?_); (rw [List.length_take]; omega); (rw [List.length_drop]); omega; (exact cells_part (h.keep hHeld.2) f); (exact own_one o4 hx (below_alloc _ _)); (exact cells_rest (h.keep hHeld.2) t c ht hc); (exact Own.made w4 _ [_, _, _] _ rfl); rintro e9 w9 ⟨⟨q9, cap9, rfl, n9, bd9⟩, hb9⟩; have hz9 := hHeld.2.size; rw [HL.out] at n9)
        refine hK.out _ _ ?_ (fun hNew => ?_)
        · (try dsimp only); exact hKS _ _ (by first | exact hHeld | exact hS) (by first | assumption | (go_grown; done) | (refine from_drew ?_; go_grown; done))
        clear hK K hHeld
        have hHeld := hNew
        clear hNew
        try dsimp only at hHeld
        try simp only [Act.put, List.setIfInBounds_toArray, List.set_cons_zero, List.set_cons_succ]
        refine takeH 10 (some 8) (v := ?_) rfl rfl (by kernel_rfl) (by kernel_rfl) (by kernel_rfl) (by rfl) ?_ (by exact hHeld) ?_
        rotate_left
        · intro w hSw; (try dsimp only at hSw); go_simp; try (with_reducible rfl)
        try simp only [Act.put, List.setIfInBounds_toArray, List.set_cons_zero, List.set_cons_succ]
        refine takeH 11 (some 9) (v := ?_) rfl rfl (by kernel_rfl) (by kernel_rfl) (by kernel_rfl) (by rfl) ?_ (by exact hHeld) ?_
        rotate_left
        · intro w hSw; (try dsimp only at hSw); go_simp; try (with_reducible rfl)
        try simp only [Act.put, List.setIfInBounds_toArray, List.set_cons_zero, List.set_cons_succ]
        refine wpAnyH_done (by kernel_rfl) ?_ _
        refine NoPanic.normal ?_
        have hbz := hHeld.2
        go_wp2_with fail
        all_goals exact bodyPost_ret (v := .tuple #[.slice q9 (f + 1 + (xs.length - t)) cap9, .int .i64 0]) (by simp [results, Tryd.results30, go_sem]) rfl ⟨⟨q9, cap9, rfl, n9.mono hz9, bd9⟩, hbz⟩
      exact AllReadyH.nil
    exact AllReadyH.nil
  exact AllReadyH.nil
set_option maxRecDepth 100000 in
set_option maxHeartbeats 2000000 in
theorem Edited_none (b o c : Nat) (xs : List Int) (f t : Nat) (L : List Int) (hft : f ≤ t) (ht : t ≤ xs.length) (hl : xs.length ≤ 1000) (hc : xs.length ≤ c) (hc63 : c ≤ 9223372036854775807) (hL : xs.take f ++ [] ++ xs.drop t = L) (w : World) (h : Ints w (some ⟨b, o, none⟩) xs) :
    Calls Tryd.prog 30 #[.slice (some ⟨b, o, none⟩) xs.length c, .int .i64 f, .int .i64 t, .func (.func 32) #[] #[]] w (EditRet L (f + 0 + (xs.length - t)) w) := by
  have HL := Lib.hid hL
  clear hL
  have d1 : decide ((f : Int) < 0) = false := by simp
  have d2 : decide ((xs.length : Int) < (t : Int)) = false := by simp; omega
  have d3 : decide ((t : Int) < (f : Int)) = false := by simp; omega
  have hf1 : (f : Int) ≤ (c : Int) := by omega
  have hf2 : (t : Int) ≤ (xs.length : Int) := by omega
  have hf3 : (xs.length : Int) ≤ (c : Int) := by omega
  go_enter Tryd.func30, Tryd.ntmps30
  go_upto_region 3 with fail
  have hKS : Keeps (fun w' => Below w.heap.size w w') := keeps_below w
  have hS : (fun w' => Below w.heap.size w w') w := Below.refl _ _
  refine wp_region_noPanic ?_
  refine wp_region_held_drew (S := (fun w' => Below w.heap.size w w')) (by kernel_rfl) ?_ (fun hHeld => ?_)
  · (try dsimp only); exact hKS _ _ (by first | exact hHeld | exact hS) (by first | assumption | (go_grown; done) | (refine from_drew ?_; go_grown; done))
  refine takeH 0 (some 23) (v := ?_) rfl rfl (by kernel_rfl) (by kernel_rfl) (by kernel_rfl) (by rfl) ?_ (by exact hHeld) ?_
  rotate_left
  · intro w hSw; (try dsimp only at hSw); go_simp; try (with_reducible rfl)
  try simp only [Act.put, List.setIfInBounds_toArray, List.set_cons_zero, List.set_cons_succ]
  refine takeH 1 (some 24) (v := ?_) rfl rfl (by kernel_rfl) (by kernel_rfl) (by kernel_rfl) (by rfl) ?_ (by exact hHeld) ?_
  rotate_left
  · intro w hSw; (try dsimp only at hSw); go_simp; try (with_reducible rfl)
  try simp only [Act.put, List.setIfInBounds_toArray, List.set_cons_zero, List.set_cons_succ]
  refine takeH 2 (some 25) (v := ?_) rfl rfl (by kernel_rfl) (by kernel_rfl) (by kernel_rfl) (by rfl) ?_ (by exact hHeld) ?_
  rotate_left
  · intro w hSw; (try dsimp only at hSw); go_simp; try (with_reducible rfl)
  try simp only [Act.put, List.setIfInBounds_toArray, List.set_cons_zero, List.set_cons_succ]
  refine takeH 3 (some 26) (v := ?_) rfl rfl (by kernel_rfl) (by kernel_rfl) (by kernel_rfl) (by rfl) ?_ (by exact hHeld) ?_
  rotate_left
  · intro w hSw; (try dsimp only at hSw); go_simp; try (with_reducible rfl)
  try simp only [Act.put, List.setIfInBounds_toArray, List.set_cons_zero, List.set_cons_succ]
  refine takeH 5 (some 28) (v := ?_) rfl rfl (by kernel_rfl) (by kernel_rfl) (by kernel_rfl) (by rfl) ?_ (by exact hHeld) ?_
  rotate_left
  · intro w hSw; (try dsimp only at hSw); go_simp; try (with_reducible rfl)
  try simp only [Act.put, List.setIfInBounds_toArray, List.set_cons_zero, List.set_cons_succ]
  refine takeH 6 (some 29) (v := ?_) rfl rfl (by kernel_rfl) (by kernel_rfl) (by kernel_rfl) (by rfl) ?_ (by exact hHeld) ?_
  rotate_left
  · intro w hSw; (try dsimp only at hSw); go_simp; try (with_reducible rfl)
  try simp only [Act.put, List.setIfInBounds_toArray, List.set_cons_zero, List.set_cons_succ]
  refine takeH 7 (some 30) (v := ?_) rfl rfl (by kernel_rfl) (by kernel_rfl) (by kernel_rfl) (by rfl) ?_ (by exact hHeld) ?_
  rotate_left
  · intro w hSw; (try dsimp only at hSw); go_simp; try (with_reducible rfl)
  try simp only [Act.put, List.setIfInBounds_toArray, List.set_cons_zero, List.set_cons_succ]
  refine wpAnyH_ready (rs := [4]) (by kernel_rfl) (by simp) ?_
  refine stepH 4 rfl (by rfl) (fun K hK => ?_) ?_
  · go_simp
    ((with_reducible refine (None_closure _).mono ?_); rintro e4 w4 ⟨rfl, hb4⟩)
    refine hK.out _ _ ?_ (fun hNew => ?_)
    · (try dsimp only); exact hKS _ _ (by first | exact hHeld | exact hS) (by first | assumption | (go_grown; done) | (refine from_drew ?_; go_grown; done))
    clear hK K hHeld
    have hHeld := hNew
    clear hNew
    try dsimp only at hHeld
    try simp only [Act.put, List.setIfInBounds_toArray, List.set_cons_zero, List.set_cons_succ]
    refine wpAnyH_ready (rs := [8]) (by kernel_rfl) (by simp) ?_
    refine stepH 8 rfl (by rfl) (fun K hK => ?_) ?_
    · go_simp
      refine hK.out _ _ ?_ (fun hNew => ?_)
      · (try dsimp only); exact hKS _ _ (by first | exact hHeld | exact hS) (by first | assumption | (go_grown; done) | (refine from_drew ?_; go_grown; done))
      clear hK K hHeld
      have hHeld := hNew
      clear hNew
      try dsimp only at hHeld
      try simp only [Act.put, List.setIfInBounds_toArray, List.set_cons_zero, List.set_cons_succ]
      refine wpAnyH_ready (rs := [9]) (by kernel_rfl) (by simp) ?_
      refine stepH 9 rfl (by rfl) (fun K hK => ?_) ?_
      · go_simp
        ((with_reducible refine (Concat_is w4.heap.size (some ⟨b, o, none⟩) none (if c = t then some ⟨b, o, none⟩ else some ⟨b, o + t, none⟩) c 0 (c - t) (xs.take f) [] (xs.drop t) f 0 (xs.length - t) ?_ rfl ?_ ?_ _ ?_ ?_ ?_ ?_).mono ?_); (rw [List.length_take]; omega); (rw [List.length_drop]); omega; (exact cells_part (h.keep hHeld) f); (exact Ints.nil _); (exact cells_rest (h.keep hHeld) t c ht hc); (exact Own.made w4 _ [_, _, _] _ rfl); rintro e9 w9 ⟨⟨q9, cap9, rfl, n9, bd9⟩, hb9⟩; have hz9 := hHeld.size; rw [HL.out] at n9)
        refine hK.out _ _ ?_ (fun hNew => ?_)
        · (try dsimp only); exact hKS _ _ (by first | exact hHeld | exact hS) (by first | assumption | (go_grown; done) | (refine from_drew ?_; go_grown; done))
        clear hK K hHeld
        have hHeld := hNew
        clear hNew
        try dsimp only at hHeld
        try simp only [Act.put, List.setIfInBounds_toArray, List.set_cons_zero, List.set_cons_succ]
        refine takeH 10 (some 8) (v := ?_) rfl rfl (by kernel_rfl) (by kernel_rfl) (by kernel_rfl) (by rfl) ?_ (by exact hHeld) ?_
        rotate_left
        · intro w hSw; (try dsimp only at hSw); go_simp; try (with_reducible rfl)
        try simp only [Act.put, List.setIfInBounds_toArray, List.set_cons_zero, List.set_cons_succ]
        refine takeH 11 (some 9) (v := ?_) rfl rfl (by kernel_rfl) (by kernel_rfl) (by kernel_rfl) (by rfl) ?_ (by exact hHeld) ?_
        rotate_left
        · intro w hSw; (try dsimp only at hSw); go_simp; try (with_reducible rfl)
        try simp only [Act.put, List.setIfInBounds_toArray, List.set_cons_zero, List.set_cons_succ]
        refine wpAnyH_done (by kernel_rfl) ?_ _
        refine NoPanic.normal ?_
        have hbz := hHeld
        go_wp2_with fail
        all_goals exact bodyPost_ret (v := .tuple #[.slice q9 (f + 0 + (xs.length - t)) cap9, .int .i64 0]) (by simp [results, Tryd.results30, go_sem]) rfl ⟨⟨q9, cap9, rfl, n9.mono hz9, bd9⟩, hbz⟩
      exact AllReadyH.nil
    exact AllReadyH.nil
  exact AllReadyH.nil

/-- no such part -/
theorem Edited_err (p : Option Addr) (c n : Nat) (f t : Int) (by' : Value) (hn : (n : Int) ≤ 9223372036854775807) (hno : f < 0 ∨ (n : Int) < t ∨ t < f) (w : World) :
    Calls Tryd.prog 30 #[.slice p n c, .int .i64 f, .int .i64 t, by'] w fun e w' => e = .returned (.tuple #[.slice none 0 0, .int .i64 4]) ∧ w = w' := by
  by_cases k1 : f < 0
  · have d1 : decide (f < 0) = true := decide_eq_true k1
    go_enter Tryd.func30, Tryd.ntmps30
    go_wp2_with fail
    go_ret2
    exact ⟨rfl, rfl⟩
  · have d1 : decide (f < 0) = false := decide_eq_false k1
    by_cases k2 : (n : Int) < t
    · have d2 : decide ((n : Int) < t) = true := decide_eq_true k2
      go_enter Tryd.func30, Tryd.ntmps30
      go_wp2_with fail
      go_ret2
      exact ⟨rfl, rfl⟩
    · have d2 : decide ((n : Int) < t) = false := decide_eq_false k2
      have d3 : decide (t < f) = true := decide_eq_true (by omega)
      go_enter Tryd.func30, Tryd.ntmps30
      go_wp2_with fail
      go_ret2
      exact ⟨rfl, rfl⟩
end Go.Proofs.YtfifjokmhhakkaaDoor
