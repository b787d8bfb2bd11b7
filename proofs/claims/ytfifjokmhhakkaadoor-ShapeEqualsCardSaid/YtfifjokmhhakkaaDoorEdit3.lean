/- shape.Replace, Insert and Remove. No condition beyond what each says. -/
import Derived.Test.YtfifjokmhhakkaaDoorEdit2
namespace Go.Proofs.YtfifjokmhhakkaaDoor
open Go.RowKit Go.Shelf
set_option linter.unusedVariables false
set_option linter.unusedSimpArgs false

set_option maxRecDepth 100000 in
set_option maxHeartbeats 2000000 in
theorem Edited_new (g : Nat) (x : Int) (hx : I64 x) (w : World) (hg : g < w.heap.size) (cg : w.cell? ⟨g, 0, none⟩ = some (.int .i64 x)) :
    Calls Tryd.prog 30 #[.slice none 0 0, .int .i64 0, .int .i64 0, .func (.func 43) #[] #[.pointer (some ⟨g, 0, none⟩)]] w (EditRet [x] 1 w) := by
  go_enter Tryd.func30, Tryd.ntmps30
  go_upto_region 3 with fail
  have hKS : Keeps (fun w' => (g < w'.heap.size ∧ w'.cell? ⟨g, 0, none⟩ = some (.int .i64 x)) ∧ Below w.heap.size w w') := (keeps_cell _ _ _).and (keeps_below w)
  have hS : (fun w' => (g < w'.heap.size ∧ w'.cell? ⟨g, 0, none⟩ = some (.int .i64 x)) ∧ Below w.heap.size w w') w := ⟨⟨hg, cg⟩, Below.refl _ _⟩
  refine wp_region_noPanic ?_
  refine wp_region_held_drew (S := (fun w' => (g < w'.heap.size ∧ w'.cell? ⟨g, 0, none⟩ = some (.int .i64 x)) ∧ Below w.heap.size w w')) (by kernel_rfl) ?_ (fun hHeld => ?_)
  · (try dsimp only); exact hKS _ _ (by first | exact hHeld | exact hS) (by first | assumption | (go_grown; done) | (refine from_drew ?_; go_grown; done))
  refine takeH 0 (some 23) (v := ?_) rfl rfl (by kernel_rfl) (by kernel_rfl) (by kernel_rfl) (by rfl) ?_ (by exact hHeld) ?_
  rotate_left
  · intro w hSw; (try dsimp only at hSw); go_simp; try (with_reducible rfl)
  try simp only [Act.put, List.setIfInBounds_toArray, List.set_cons_zero, List.set_cons_succ]
  refine takeH 1 (some 24) (v := ?_) rfl rfl (by kernel_rfl) (by kernel_rfl) (by kernel_rfl) (by rfl) ?_ (by exact hHeld) ?_
  rotate_left
  · intro w hSw; (try dsimp only at hSw); go_simp; try (with_reducible rfl)
  try simp only [Act.put, List.setIfInBounds_toArray, List.set_cons_zero, List.set_cons_succ]
  refine takeH 2 (some 25) (v := ?_) rfl rfl (by kernel_rfl) (by kernel_rfl) (by kernel_rfl) (by rfl) ?_ (by exact hHeld) ?_
  rotate_left
  · intro w hSw; (try dsimp only at hSw); go_simp; try (with_reducible rfl)
  try simp only [Act.put, List.setIfInBounds_toArray, List.set_cons_zero, List.set_cons_succ]
  refine takeH 3 (some 26) (v := ?_) rfl rfl (by kernel_rfl) (by kernel_rfl) (by kernel_rfl) (by rfl) ?_ (by exact hHeld) ?_
  rotate_left
  · intro w hSw; (try dsimp only at hSw); go_simp; try (with_reducible rfl)
  try simp only [Act.put, List.setIfInBounds_toArray, List.set_cons_zero, List.set_cons_succ]
  refine takeH 5 (some 28) (v := ?_) rfl rfl (by kernel_rfl) (by kernel_rfl) (by kernel_rfl) (by rfl) ?_ (by exact hHeld) ?_
  rotate_left
  · intro w hSw; (try dsimp only at hSw); go_simp; try (with_reducible rfl)
  try simp only [Act.put, List.setIfInBounds_toArray, List.set_cons_zero, List.set_cons_succ]
  refine takeH 6 (some 29) (v := ?_) rfl rfl (by kernel_rfl) (by kernel_rfl) (by kernel_rfl) (by rfl) ?_ (by exact hHeld) ?_
  rotate_left
  · intro w hSw; (try dsimp only at hSw); go_simp; try (with_reducible rfl)
  try simp only [Act.put, List.setIfInBounds_toArray, List.set_cons_zero, List.set_cons_succ]
  refine takeH 7 (some 30) (v := ?_) rfl rfl (by kernel_rfl) (by kernel_rfl) (by kernel_rfl) (by rfl) ?_ (by exact hHeld) ?_
  rotate_left
  · intro w hSw; (try dsimp only at hSw); go_simp; try (with_reducible rfl)
  try simp only [Act.put, List.setIfInBounds_toArray, List.set_cons_zero, List.set_cons_succ]
  refine wpAnyH_ready (rs := [4]) (by kernel_rfl) (by simp) ?_
  refine stepH 4 rfl (by rfl) (fun K hK => ?_) ?_
  · go_simp
    ((with_reducible refine (One_closure g x _ ?_).mono ?_); (exact hHeld.1.2); rintro e4 w4 ⟨⟨q4, rfl, o4⟩, hb4⟩)
    refine hK.out _ _ ?_ (fun hNew => ?_)
    · (try dsimp only); exact hKS _ _ (by first | exact hHeld | exact hS) (by first | assumption | (go_grown; done) | (refine from_drew ?_; go_grown; done))
    clear hK K hHeld
    have hHeld := hNew
    clear hNew
    try dsimp only at hHeld
    try simp only [Act.put, List.setIfInBounds_toArray, List.set_cons_zero, List.set_cons_succ]
    refine wpAnyH_ready (rs := [8]) (by kernel_rfl) (by simp) ?_
    refine stepH 8 rfl (by rfl) (fun K hK => ?_) ?_
    · go_simp
      refine hK.out _ _ ?_ (fun hNew => ?_)
      · (try dsimp only); exact hKS _ _ (by first | exact hHeld | exact hS) (by first | assumption | (go_grown; done) | (refine from_drew ?_; go_grown; done))
      clear hK K hHeld
      have hHeld := hNew
      clear hNew
      try dsimp only at hHeld
      try simp only [Act.put, List.setIfInBounds_toArray, List.set_cons_zero, List.set_cons_succ]
      refine wpAnyH_ready (rs := [9]) (by kernel_rfl) (by simp) ?_
      refine stepH 9 rfl (by rfl) (fun K hK => ?_) ?_
      · go_simp
        ((with_reducible refine (Concat_is w4.heap.size none (some ⟨q4, 0, none⟩) none 0 1 0 [] [x] [] 0 1 0 rfl rfl rfl ?_ _ ?_ ?_ ?_ ?_).mono ?_); omega; (exact Ints.nil _); (exact own_one o4 hx (below_alloc _ _)); (exact Ints.nil _); (exact Own.made w4 _ [_, _, _] _ rfl); rintro e9 w9 ⟨⟨q9, cap9, rfl, n9, bd9⟩, hb9⟩; have hz9 := hHeld.2.size)
        refine hK.out _ _ ?_ (fun hNew => ?_)
        · (try dsimp only); exact hKS _ _ (by first | exact hHeld | exact hS) (by first | assumption | (go_grown; done) | (refine from_drew ?_; go_grown; done))
        clear hK K hHeld
        have hHeld := hNew
        clear hNew
        try dsimp only at hHeld
        try simp only [Act.put, List.setIfInBounds_toArray, List.set_cons_zero, List.set_cons_succ]
        refine takeH 10 (some 8) (v := ?_) rfl rfl (by kernel_rfl) (by kernel_rfl) (by kernel_rfl) (by rfl) ?_ (by exact hHeld) ?_
        rotate_left
        · intro w hSw; (try dsimp only at hSw); go_simp; try (with_reducible rfl)
        try simp only [Act.put, List.setIfInBounds_toArray, List.set_cons_zero, List.set_cons_succ]
        refine takeH 11 (some 9) (v := ?_) rfl rfl (by kernel_rfl) (by kernel_rfl) (by kernel_rfl) (by rfl) ?_ (by exact hHeld) ?_
        rotate_left
        · intro w hSw; (try dsimp only at hSw); go_simp; try (with_reducible rfl)
        try simp only [Act.put, List.setIfInBounds_toArray, List.set_cons_zero, List.set_cons_succ]
        refine wpAnyH_done (by kernel_rfl) ?_ _
        refine NoPanic.normal ?_
        have hbz := hHeld.2
        go_wp2_with fail
        all_goals exact bodyPost_ret (v := .tuple #[.slice q9 1 cap9, .int .i64 0]) (by simp [results, Tryd.results30, go_sem]) rfl ⟨⟨q9, cap9, rfl, n9.mono hz9, bd9⟩, hbz⟩
      exact AllReadyH.nil
    exact AllReadyH.nil
  exact AllReadyH.nil

theorem ints_void (w : World) (p : Option Addr) : Ints w p [] := ⟨.inl rfl, by simp, by simp⟩
set_option maxRecDepth 100000 in
set_option maxHeartbeats 2000000 in
theorem Edited_void (a : Addr) (c : Nat) (hc63 : c ≤ 9223372036854775807) (g : Nat) (x : Int) (hx : I64 x) (w : World) (hg : g < w.heap.size) (cg : w.cell? ⟨g, 0, none⟩ = some (.int .i64 x)) :
    Calls Tryd.prog 30 #[.slice (some a) 0 c, .int .i64 0, .int .i64 0, .func (.func 43) #[] #[.pointer (some ⟨g, 0, none⟩)]] w (EditRet [x] 1 w) := by
  go_enter Tryd.func30, Tryd.ntmps30
  go_upto_region 3 with fail
  have hKS : Keeps (fun w' => (g < w'.heap.size ∧ w'.cell? ⟨g, 0, none⟩ = some (.int .i64 x)) ∧ Below w.heap.size w w') := (keeps_cell _ _ _).and (keeps_below w)
  have hS : (fun w' => (g < w'.heap.size ∧ w'.cell? ⟨g, 0, none⟩ = some (.int .i64 x)) ∧ Below w.heap.size w w') w := ⟨⟨hg, cg⟩, Below.refl _ _⟩
  refine wp_region_noPanic ?_
  refine wp_region_held_drew (S := (fun w' => (g < w'.heap.size ∧ w'.cell? ⟨g, 0, none⟩ = some (.int .i64 x)) ∧ Below w.heap.size w w')) (by kernel_rfl) ?_ (fun hHeld => ?_)
  · (try dsimp only); exact hKS _ _ (by first | exact hHeld | exact hS) (by first | assumption | (go_grown; done) | (refine from_drew ?_; go_grown; done))
  refine takeH 0 (some 23) (v := ?_) rfl rfl (by kernel_rfl) (by kernel_rfl) (by kernel_rfl) (by rfl) ?_ (by exact hHeld) ?_
  rotate_left
  · intro w hSw; (try dsimp only at hSw); go_simp; try (with_reducible rfl)
  try simp only [Act.put, List.setIfInBounds_toArray, List.set_cons_zero, List.set_cons_succ]
  refine takeH 1 (some 24) (v := ?_) rfl rfl (by kernel_rfl) (by kernel_rfl) (by kernel_rfl) (by rfl) ?_ (by exact hHeld) ?_
  rotate_left
  · intro w hSw; (try dsimp only at hSw); go_simp; try (with_reducible rfl)
  try simp only [Act.put, List.setIfInBounds_toArray, List.set_cons_zero, List.set_cons_succ]
  refine takeH 2 (some 25) (v := ?_) rfl rfl (by kernel_rfl) (by kernel_rfl) (by kernel_rfl) (by rfl) ?_ (by exact hHeld) ?_
  rotate_left
  · intro w hSw; (try dsimp only at hSw); go_simp; try (with_reducible rfl)
  try simp only [Act.put, List.setIfInBounds_toArray, List.set_cons_zero, List.set_cons_succ]
  refine takeH 3 (some 26) (v := ?_) rfl rfl (by kernel_rfl) (by kernel_rfl) (by kernel_rfl) (by rfl) ?_ (by exact hHeld) ?_
  rotate_left
  · intro w hSw; (try dsimp only at hSw); go_simp; try (with_reducible rfl)
  try simp only [Act.put, List.setIfInBounds_toArray, List.set_cons_zero, List.set_cons_succ]
  refine takeH 5 (some 28) (v := ?_) rfl rfl (by kernel_rfl) (by kernel_rfl) (by kernel_rfl) (by rfl) ?_ (by exact hHeld) ?_
  rotate_left
  · intro w hSw; (try dsimp only at hSw); go_simp; try (with_reducible rfl)
  try simp only [Act.put, List.setIfInBounds_toArray, List.set_cons_zero, List.set_cons_succ]
  refine takeH 6 (some 29) (v := ?_) rfl rfl (by kernel_rfl) (by kernel_rfl) (by kernel_rfl) (by rfl) ?_ (by exact hHeld) ?_
  rotate_left
  · intro w hSw; (try dsimp only at hSw); go_simp; try (with_reducible rfl)
  try simp only [Act.put, List.setIfInBounds_toArray, List.set_cons_zero, List.set_cons_succ]
  refine takeH 7 (some 30) (v := ?_) rfl rfl (by kernel_rfl) (by kernel_rfl) (by kernel_rfl) (by rfl) ?_ (by exact hHeld) ?_
  rotate_left
  · intro w hSw; (try dsimp only at hSw); go_simp; try (with_reducible rfl)
  try simp only [Act.put, List.setIfInBounds_toArray, List.set_cons_zero, List.set_cons_succ]
  refine wpAnyH_ready (rs := [4]) (by kernel_rfl) (by simp) ?_
  refine stepH 4 rfl (by rfl) (fun K hK => ?_) ?_
  · go_simp
    ((with_reducible refine (One_closure g x _ ?_).mono ?_); (exact hHeld.1.2); rintro e4 w4 ⟨⟨q4, rfl, o4⟩, hb4⟩)
    refine hK.out _ _ ?_ (fun hNew => ?_)
    · (try dsimp only); exact hKS _ _ (by first | exact hHeld | exact hS) (by first | assumption | (go_grown; done) | (refine from_drew ?_; go_grown; done))
    clear hK K hHeld
    have hHeld := hNew
    clear hNew
    try dsimp only at hHeld
    try simp only [Act.put, List.setIfInBounds_toArray, List.set_cons_zero, List.set_cons_succ]
    refine wpAnyH_ready (rs := [8]) (by kernel_rfl) (by simp) ?_
    refine stepH 8 rfl (by rfl) (fun K hK => ?_) ?_
    · go_simp
      refine hK.out _ _ ?_ (fun hNew => ?_)
      · (try dsimp only); exact hKS _ _ (by first | exact hHeld | exact hS) (by first | assumption | (go_grown; done) | (refine from_drew ?_; go_grown; done))
      clear hK K hHeld
      have hHeld := hNew
      clear hNew
      try dsimp only at hHeld
      try simp only [Act.put, List.setIfInBounds_toArray, List.set_cons_zero, List.set_cons_succ]
      refine wpAnyH_ready (rs := [9]) (by kernel_rfl) (by simp) ?_
      refine stepH 9 rfl (by rfl) (fun K hK => ?_) ?_
      · go_simp
        ((with_reducible refine (Concat_is w4.heap.size (some a) (some ⟨q4, 0, none⟩) (some a) c 1 c [] [x] [] 0 1 0 rfl rfl rfl ?_ _ ?_ ?_ ?_ ?_).mono ?_); omega; (exact ints_void _ _); (exact own_one o4 hx (below_alloc _ _)); (exact ints_void _ _); (exact Own.made w4 _ [_, _, _] _ rfl); rintro e9 w9 ⟨⟨q9, cap9, rfl, n9, bd9⟩, hb9⟩; have hz9 := hHeld.2.size)
        refine hK.out _ _ ?_ (fun hNew => ?_)
        · (try dsimp only); exact hKS _ _ (by first | exact hHeld | exact hS) (by first | assumption | (go_grown; done) | (refine from_drew ?_; go_grown; done))
        clear hK K hHeld
        have hHeld := hNew
        clear hNew
        try dsimp only at hHeld
        try simp only [Act.put, List.setIfInBounds_toArray, List.set_cons_zero, List.set_cons_succ]
        refine takeH 10 (some 8) (v := ?_) rfl rfl (by kernel_rfl) (by kernel_rfl) (by kernel_rfl) (by rfl) ?_ (by exact hHeld) ?_
        rotate_left
        · intro w hSw; (try dsimp only at hSw); go_simp; try (with_reducible rfl)
        try simp only [Act.put, List.setIfInBounds_toArray, List.set_cons_zero, List.set_cons_succ]
        refine takeH 11 (some 9) (v := ?_) rfl rfl (by kernel_rfl) (by kernel_rfl) (by kernel_rfl) (by rfl) ?_ (by exact hHeld) ?_
        rotate_left
        · intro w hSw; (try dsimp only at hSw); go_simp; try (with_reducible rfl)
        try simp only [Act.put, List.setIfInBounds_toArray, List.set_cons_zero, List.set_cons_succ]
        refine wpAnyH_done (by kernel_rfl) ?_ _
        refine NoPanic.normal ?_
        have hbz := hHeld.2
        go_wp2_with fail
        all_goals exact bodyPost_ret (v := .tuple #[.slice q9 1 cap9, .int .i64 0]) (by simp [results, Tryd.results30, go_sem]) rfl ⟨⟨q9, cap9, rfl, n9.mono hz9, bd9⟩, hbz⟩
      exact AllReadyH.nil
    exact AllReadyH.nil
  exact AllReadyH.nil

/-- the part is replaced, whatever the list -/
theorem Edited_any (p : Option Addr) (c : Nat) (xs : List Int) (f t : Nat) (L : List Int) (hft : f ≤ t) (ht : t ≤ xs.length) (hl : xs.length ≤ 1000) (hb : Bds p xs.length c) (g : Nat) (x : Int) (hx : I64 x) (hL : xs.take f ++ [x] ++ xs.drop t = L) (w : World) (h : Ints w p xs) (hg : g < w.heap.size) (cg : w.cell? ⟨g, 0, none⟩ = some (.int .i64 x)) :
    Calls Tryd.prog 30 #[.slice p xs.length c, .int .i64 f, .int .i64 t, .func (.func 43) #[] #[.pointer (some ⟨g, 0, none⟩)]] w (EditRet L (f + 1 + (xs.length - t)) w) := by
  cases p with
  | none =>
    have hn : xs = [] := by
      rcases h.cells with h' | ⟨b, off, hp, _⟩
      · simpa using h'
      · cases hp
    subst hn
    have hc := hb.nil rfl
    subst hc
    simp only [List.length_nil] at ht ⊢
    obtain rfl : t = 0 := by omega
    obtain rfl : f = 0 := by omega
    have hL : [x] = L := by simpa using hL
    subst hL
    exact Edited_new g x hx w hg cg
  | some a =>
    rcases h.cells with h' | ⟨b, off, hp, _⟩
    · have hn : xs = [] := by simpa using h'
      subst hn
      simp only [List.length_nil] at ht ⊢
      obtain rfl : t = 0 := by omega
      obtain rfl : f = 0 := by omega
      have hL : [x] = L := by simpa using hL
      subst hL
      exact Edited_void a c hb.big g x hx w hg cg
    · cases hp
      exact Edited_one b off c xs f t L hft ht hl hb.le hb.big g x hx hL w h hg cg

theorem edit_below {w a : World} {L : List Int} {n : Nat} {e : Ending} {w' : World} (hb : Below w.heap.size w a) (h : EditRet L n a e w') : EditRet L n w e w' := by
  obtain ⟨⟨q, cap, he, hn, hbd⟩, hb'⟩ := h
  exact ⟨⟨q, cap, he, hn.mono hb.size, hbd⟩, below_t hb hb'⟩
/-- shape.Insert at an axis of the list, or behind it -/
theorem Insert_yes (p : Option Addr) (c : Nat) (xs : List Int) (k : Nat) (L : List Int) (hk : k ≤ xs.length) (hl : xs.length ≤ 1000) (hb : Bds p xs.length c) (x : Int) (hx : I64 x) (hL : xs.take k ++ [x] ++ xs.drop k = L) (w : World) (h : Ints w p xs) :
    Calls Tryd.prog 20 #[.slice p xs.length c, .int .i64 k, .int .i64 x] w (EditRet L (k + 1 + (xs.length - k)) w) := by
  have HL := Lib.hid hL
  clear hL
  go_enter Tryd.func20, Tryd.ntmps20
  go_wp2_with fail
  refine (One_any x w).mono ?_
  rintro e1 w1 ⟨rfl, hw1⟩
  have hb1 : Below w.heap.size w w1 := hw1 ▸ below_alloc _ _
  have hg1 : w.heap.size < w1.heap.size := by rw [← hw1]; simp
  have cg1 : w1.cell? ⟨w.heap.size, 0, none⟩ = some (.int .i64 x) := by rw [← hw1]; simp [go_sem]
  clear hw1
  go_wp2_with fail
  refine (Edited_any p c xs k k L (Nat.le_refl _) hk hl hb w.heap.size x hx HL.out w1 (h.keep hb1) hg1 cg1).mono ?_
  rintro e2 w2 hret
  obtain ⟨⟨q, cap, rfl, hn, hbd⟩, hb2⟩ := edit_below hb1 hret
  clear hret
  go_wp2_with fail
  go_ret2
  exact ⟨⟨q, cap, rfl, hn, hbd⟩, hb2⟩
theorem Insert_no (p : Option Addr) (c n : Nat) (k : Int) (hn : n ≤ 1000) (hk : k < 0 ∨ (n : Int) < k) (x : Int) (w : World) :
    Calls Tryd.prog 20 #[.slice p n c, .int .i64 k, .int .i64 x] w fun e w' => e = .returned (.tuple #[.slice none 0 0, .int .i64 4]) ∧ Below w.heap.size w w' := by
  go_enter Tryd.func20, Tryd.ntmps20
  go_wp2_with fail
  refine (One_any x w).mono ?_
  rintro e1 w1 ⟨rfl, hw1⟩
  have hb1 : Below w.heap.size w w1 := hw1 ▸ below_alloc _ _
  clear hw1
  go_wp2_with fail
  refine (Edited_err p c n k k _ (by omega) (hk.elim (fun h => .inl h) fun h => .inr (.inl h)) w1).mono ?_
  rintro e2 w2 ⟨rfl, rfl⟩
  go_wp2_with fail
  go_ret2
  exact ⟨rfl, hb1⟩
set_option maxRecDepth 100000 in
/-- shape.Replace at an axis of the list -/
theorem Replace_yes (p : Option Addr) (c : Nat) (xs : List Int) (k : Nat) (L : List Int) (hk : k < xs.length) (hl : xs.length ≤ 1000) (hb : Bds p xs.length c) (x : Int) (hx : I64 x) (hL : xs.take k ++ [x] ++ xs.drop (k + 1) = L) (w : World) (h : Ints w p xs) :
    Calls Tryd.prog 19 #[.slice p xs.length c, .int .i64 k, .int .i64 x] w (EditRet L (k + 1 + (xs.length - (k + 1))) w) := by
  have HL := Lib.hid hL
  have d0 : decide ((xs.length : Int) ≤ (k : Int)) = false := by simp; omega
  have hE : Hid (∀ (g : Nat) (w1 : World), Below w.heap.size w w1 → g < w1.heap.size → w1.cell? ⟨g, 0, none⟩ = some (.int .i64 x) → Calls Tryd.prog 30 #[.slice p xs.length c, .int .i64 k, .int .i64 ((k : Int) + 1), .func (.func 43) #[] #[.pointer (some ⟨g, 0, none⟩)]] w1 (EditRet L (k + 1 + (xs.length - (k + 1))) w1)) := fun g w1 hb1 hg cg => by
    have := Edited_any p c xs k (k + 1) L (Nat.le_succ _) hk hl hb g x hx hL w1 (h.keep hb1) hg cg
    rwa [Int.natCast_add] at this
  have hkl : (k : Int) < 1000 := by omega
  clear hL
  go_enter Tryd.func19, Tryd.ntmps19
  go_wp2_with fail
  refine (One_any x w).mono ?_
  rintro e1 w1 ⟨rfl, hw1⟩
  have hb1 : Below w.heap.size w w1 := hw1 ▸ below_alloc _ _
  have hg1 : w.heap.size < w1.heap.size := by rw [← hw1]; simp
  have cg1 : w1.cell? ⟨w.heap.size, 0, none⟩ = some (.int .i64 x) := by rw [← hw1]; simp [go_sem]
  clear hw1
  go_wp2_with fail
  refine (hE.out w.heap.size w1 hb1 hg1 cg1).mono ?_
  rintro e2 w2 hret
  obtain ⟨⟨q, cap, rfl, hn, hbd⟩, hb2⟩ := edit_below hb1 hret
  clear hret
  go_wp2_with fail
  go_ret2
  exact ⟨⟨q, cap, rfl, hn, hbd⟩, hb2⟩
theorem Replace_no (p : Option Addr) (c n : Nat) (k : Int) (hn : n ≤ 1000) (hk : k < 0 ∨ (n : Int) ≤ k) (h64 : I64 k) (x : Int) (w : World) :
    Calls Tryd.prog 19 #[.slice p n c, .int .i64 k, .int .i64 x] w fun e w' => e = .returned (.tuple #[.slice none 0 0, .int .i64 4]) ∧ Below w.heap.size w w' := by
  by_cases h1 : (n : Int) ≤ k
  · have d0 : decide ((n : Int) ≤ k) = true := decide_eq_true h1
    go_enter Tryd.func19, Tryd.ntmps19
    go_wp2_with fail
    go_ret2
    exact ⟨rfl, Below.refl _ _⟩
  · have d0 : decide ((n : Int) ≤ k) = false := decide_eq_false h1
    have hk0 : k < 0 := by omega
    unfold I64 at h64
    go_enter Tryd.func19, Tryd.ntmps19
    go_wp2_with fail
    refine (One_any x w).mono ?_
    rintro e1 w1 ⟨rfl, hw1⟩
    have hb1 : Below w.heap.size w w1 := hw1 ▸ below_alloc _ _
    clear hw1
    go_wp2_with fail
    refine (Edited_err p c n k (k + 1) _ (by omega) (.inl hk0) w1).mono ?_
    rintro e2 w2 ⟨rfl, rfl⟩
    go_wp2_with fail
    go_ret2
    exact ⟨rfl, hb1⟩
set_option maxRecDepth 100000 in
/-- shape.Remove at an axis of the list -/
theorem Remove_yes (p : Option Addr) (c : Nat) (xs : List Int) (k : Nat) (L : List Int) (hk : k < xs.length) (hl : xs.length ≤ 1000) (hb : Bds p xs.length c) (hL : xs.take k ++ [] ++ xs.drop (k + 1) = L) (w : World) (h : Ints w p xs) :
    Calls Tryd.prog 21 #[.slice p xs.length c, .int .i64 k] w (EditRet L (k + 0 + (xs.length - (k + 1))) w) := by
  have d0 : decide ((xs.length : Int) ≤ (k : Int)) = false := by simp; omega
  have hE : Hid (Calls Tryd.prog 30 #[.slice p xs.length c, .int .i64 k, .int .i64 ((k : Int) + 1), .func (.func 32) #[] #[]] w (EditRet L (k + 0 + (xs.length - (k + 1))) w)) := by
    rcases h.cells with h' | ⟨b, off, hp, _⟩
    · have hn : xs = [] := by simpa using h'
      subst hn
      simp at hk
    · subst hp
      have := Edited_none b off c xs k (k + 1) L (Nat.le_succ _) hk hl hb.le hb.big hL w h
      rwa [Int.natCast_add] at this
  have hkl : (k : Int) < 1000 := by omega
  clear hL
  go_enter Tryd.func21, Tryd.ntmps21
  go_wp2_with fail
  refine hE.out.mono ?_
  rintro e2 w2 ⟨⟨q, cap, rfl, hn, hbd⟩, hb2⟩
  go_wp2_with fail
  go_ret2
  exact ⟨⟨q, cap, rfl, hn, hbd⟩, hb2⟩
theorem Remove_no (p : Option Addr) (c n : Nat) (k : Int) (hn : n ≤ 1000) (hk : k < 0 ∨ (n : Int) ≤ k) (h64 : I64 k) (w : World) :
    Calls Tryd.prog 21 #[.slice p n c, .int .i64 k] w fun e w' => e = .returned (.tuple #[.slice none 0 0, .int .i64 4]) ∧ w = w' := by
  by_cases h1 : (n : Int) ≤ k
  · have d0 : decide ((n : Int) ≤ k) = true := decide_eq_true h1
    go_enter Tryd.func21, Tryd.ntmps21
    go_wp2_with fail
    go_ret2
    exact ⟨rfl, rfl⟩
  · have d0 : decide ((n : Int) ≤ k) = false := decide_eq_false h1
    have hk0 : k < 0 := by omega
    unfold I64 at h64
    go_enter Tryd.func21, Tryd.ntmps21
    go_wp2_with fail
    refine (Edited_err p c n k (k + 1) _ (by omega) (.inl hk0) w).mono ?_
    rintro e2 w2 ⟨rfl, rfl⟩
    go_wp2_with fail
    go_ret2
    exact ⟨rfl, rfl⟩
end Go.Proofs.YtfifjokmhhakkaaDoor
