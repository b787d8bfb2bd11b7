/- What access.Shift, Flip and Permute return. Conditions: the axes are in range, the numbers not too large. -/
import Derived.Test.YthkfjdhakbjllaaAcc8
namespace Go.Proofs.Ythkfjdhakbjllaa
open Go.RowKit Go.Shelf
set_option linter.unusedVariables false
set_option linter.unusedSimpArgs false

set_option maxRecDepth 100000 in
set_option maxHeartbeats 2000000 in
theorem Flip1_moves (b1 b2 : Nat) (a m : Int) (w0 : World) (h1 : w0.cell? ⟨b1, 0, none⟩ = some (.int .i64 a)) (h2 : w0.cell? ⟨b2, 0, none⟩ = some (.int .i64 m)) (x X : Int) (s : List Int) (rest : List Value) (n : Nat) (ha : a = (n : Int)) (hn : n < s.length) (hs : s.length ≤ 1000000) (hi : ∀ y ∈ s, -4000000000000000000 ≤ y ∧ y ≤ 4000000000000000000) (hm0 : -1000000 ≤ m) (hm1 : m ≤ 1000000) (hX : x + (m - 1) * nth s n = X) (hb1 : -4000000000000000000 ≤ (m - 1) * nth s n) (hb2 : (m - 1) * nth s n ≤ 4000000000000000000) (hx1 : -4000000000000000000 ≤ x) (hx2 : x ≤ 4000000000000000000) :
    Moves 121 #[.pointer (some ⟨b1, 0, none⟩), .pointer (some ⟨b2, 0, none⟩)] w0 x X s (s.set n (-(nth s n))) rest := by
  intro W g p' c' hb hsz hg hL hN
  subst ha
  have l1 := World.block_lt_of_cell? w0 _ h1
  have l2 := World.block_lt_of_cell? w0 _ h2
  have c1 := (hb.cell (p := ⟨b1, 0, none⟩) l1).trans h1
  have c2 := (hb.cell (p := ⟨b2, 0, none⟩) l2).trans h2
  obtain ⟨g2, rfl, hg2, ho⟩ := row_of_new hN (by omega)
  have hne : g2 ≠ g := by
    intro e
    subst e
    exact absurd (own_kind ho hL) (by decide)
  have hi64 : ∀ y ∈ s, I64 y := fun y hy => by have := hi y hy; exact ⟨by omega, by omega⟩
  have hy := hi _ (nth_mem hn)
  have Hcall := Lib.hid (fun (W' : World) (hL' : Lin W' g x (some ⟨g2, 0, none⟩) c' s rest) (ho' : Own W' g2 3 (s.map (.int .i64))) => flip_any g g2 x c' s rest n m X W' hL' ho' hne hi64 (by omega) hn hm0 hm1 hX hb1 hb2 hx1 hx2 hy.1)
  have HL := Lib.hid hL
  have Ho := Lib.hid ho
  have Hy := Lib.hid hy
  have Hi := Lib.hid hi
  have Hne := Lib.hid hne
  clear hX hb1 hb2 hL ho hN hi hi64 hy hne
  go_enter Try.func121, Try.ntmps121
  go_wp2_with fail
  go_region_with (first | (go_at_call 122; refine (Hcall.out _ (show Own W.drew g 131 _ from HL.out) (show Own W.drew g2 3 _ from Ho.out)).mono ?_; rintro e1 w1 ⟨⟨v, rfl⟩, hL1, ho1, hch⟩))
  all_goals
    go_wp2_with fail
    go_end0
    have hch' : Chg (fun j => j = g ∨ j = g2) W w1 := ((Chg.refl _ W).drewN 1).trans hch
    refine ⟨⟨_, rfl⟩, ⟨some ⟨g2, 0, none⟩, c', ?_, ?_, .inr ⟨g2, 0, rfl, hg2⟩⟩, hch'.mono fun j hj => hj.imp id fun h => ⟨by rw [h], by intro h; subst h; simp at hn⟩⟩
    · have : (s.set n (-(nth s n))).length = s.length := by simp
      unfold Lin
      rw [this]
      exact hL1
    · refine ⟨.inr ⟨g2, 0, rfl, ho1.lt, fun i u hu => by rw [Nat.zero_add]; exact ho1.cell hu⟩, fun y hy => ?_, by simp; omega⟩
      rcases List.mem_or_eq_of_mem_set hy with hy | rfl
      · have := Hi.out y hy
        exact ⟨by omega, by omega⟩
      · have := Hy.out
        exact ⟨by omega, by omega⟩

set_option maxRecDepth 100000 in
set_option maxHeartbeats 2000000 in
theorem Permute1_moves (b1 b2 : Nat) (q : Option Addr) (d : Nat) (perm : List Int) (m : Nat) (w0 : World) (h1 : w0.cell? ⟨b1, 0, none⟩ = some (.slice q perm.length d)) (h2 : w0.cell? ⟨b2, 0, none⟩ = some (.int .i64 m)) (hq : Ints w0 q perm) (x : Int) (s : List Int) (rest : List Value) (hl : perm.length = s.length) (hp : perm.length ≤ 16) (hm : m ≤ 1000000) (hj : ∀ j ∈ perm, 0 ≤ j ∧ j < (m : Int)) (hy : ∀ y ∈ s, -1099511627776 ≤ y ∧ y ≤ 1099511627776) :
    Moves 111 #[.pointer (some ⟨b1, 0, none⟩), .pointer (some ⟨b2, 0, none⟩)] w0 x x s (permF perm s (List.replicate m 0)) rest := by
  intro W g p' c' hb hsz hg hL hN
  have l1 := World.block_lt_of_cell? w0 _ h1
  have l2 := World.block_lt_of_cell? w0 _ h2
  have c1 := (hb.cell (p := ⟨b1, 0, none⟩) l1).trans h1
  have c2 := (hb.cell (p := ⟨b2, 0, none⟩) l2).trans h2
  have hI : Ints W p' s := hN.ints (fun y h => by have := hy y h; exact ⟨by omega, by omega⟩) (by omega)
  have Hcall := Lib.hid (fun (W' : World) (hL' : Lin W' g x p' c' s rest) (h' : Ints W' p' s) (h'' : Ints W' q perm) => permute_any g x p' q c' d s perm rest m W' hL' h' h'' hl hp hm hj hy)
  have HL := Lib.hid hL
  have HI := Lib.hid hI
  have HQ := Lib.hid (hq.keep hb)
  clear hL hI hq hN hl hj hy
  go_enter Try.func111, Try.ntmps111
  go_wp2_with fail
  go_region_with (first | (go_at_call 112; refine (Hcall.out _ (show Own W.drew g 131 _ from HL.out) (HI.out.keep ((Below.refl _ _).drew)) (HQ.out.keep ((Below.refl _ _).drew))).mono ?_; rintro e1 w1 ⟨⟨v, rfl⟩, ⟨p'', c'', hL1, hI1, hf1⟩, hch⟩))
  all_goals
    go_wp2_with fail
    go_end0
    have hch' : Chg (fun j => j = g) W w1 := ((Chg.refl _ W).drewN 1).trans hch
    refine ⟨⟨_, rfl⟩, ⟨p'', c'', hL1, hI1, hf1.imp id ?_⟩, hch'.mono fun j hj => .inl hj⟩
    rintro ⟨y, h1, h2⟩
    exact ⟨y, 0, h1, Nat.le_trans hsz h2⟩

set_option maxRecDepth 100000 in
set_option maxHeartbeats 4000000 in
theorem Shift_any (k b e : Int) (p : Option Addr) (c : Nat) (s : List Int) (st sp md : Int) (n : Nat) (m X : Int) (w : World) (h : Ints w p s) (hl : s.length ≤ 1000000) (hk : k ≠ 1) (hn : n < s.length) (hi : ∀ y ∈ s, I64 y) (hX : firstS k e st + m * nth s n = X) (hb1 : -4000000000000000000 ≤ m * nth s n) (hb2 : m * nth s n ≤ 4000000000000000000) (hx1 : -4000000000000000000 ≤ firstS k e st) (hx2 : firstS k e st ≤ 4000000000000000000) :
    Calls Try.prog 100 #[.agg #[.int .i64 k, .int .i64 b, .int .i64 e, .slice p s.length c, .int .i64 st, .int .i64 sp, .int .i64 md], .int .i64 (n : Int), .int .i64 m] w (MovedTo w k b (resE k e X) s (resS k st X) sp md) := by
  obtain ⟨W, hW⟩ : ∃ W, (((w.alloc (.cells #[.int .i64 k, .int .i64 b, .int .i64 e, .slice p s.length c, .int .i64 st, .int .i64 sp, .int .i64 md] 93)).alloc (.cells #[.int .i64 (n : Int)] 3)).alloc (.cells #[.int .i64 m] 3)).alloc (.cells #[.int .i64 0, .int .i64 0, .int .i64 0, .slice none 0 0, .int .i64 0, .int .i64 0, .int .i64 0] 93) = W := ⟨_, rfl⟩
  have hbW : Below w.heap.size w W := by rw [← hW]; go_grown
  have k1 : W.cell? ⟨w.heap.size + 1, 0, none⟩ = some (.int .i64 (n : Int)) := by rw [← hW]; simp [go_sem]
  have k2 : W.cell? ⟨w.heap.size + 2, 0, none⟩ = some (.int .i64 m) := by rw [← hW]; simp [go_sem]
  have hR : At7 W (w.heap.size + 3) 0 0 0 (.slice none 0 0) 0 0 0 := by rw [← hW]; exact At7.new _ _ 0 0 0 (.slice none 0 0) 0 0 0 93 (by simp)
  have hRf : ∀ i, W.frozen? ⟨w.heap.size + 3, i, none⟩ = false := by intro i; rw [← hW]; simp [go_sem]
  have hM : Moves 123 #[.pointer (some ⟨w.heap.size + 1, 0, none⟩), .pointer (some ⟨w.heap.size + 2, 0, none⟩)] W (firstS k e st) X s s [.int .i64 k, .int .i64 b, .int .i64 e, .slice p s.length c, .int .i64 st, .int .i64 sp, .int .i64 md] :=
    Shift1_moves _ _ _ _ W k1 k2 _ _ s _ n rfl hn hl hi hX hb1 hb2 hx1 hx2
  have Hmv := Lib.hid (moved_any 123 #[.pointer (some ⟨w.heap.size + 1, 0, none⟩), .pointer (some ⟨w.heap.size + 2, 0, none⟩)] k b e p c s st sp md X s W (h.keep hbW) hl hk (enters_of Try.func123 (by kernel_rfl) rfl) hM)
  have HRf := Lib.hid hRf
  obtain ⟨E, hE⟩ : ∃ E, resE k e X = E := ⟨_, rfl⟩
  obtain ⟨S, hS⟩ : ∃ S, resS k st X = S := ⟨_, rfl⟩
  rw [hE, hS] at Hmv
  rw [hE, hS]
  have HW := Lib.hid hW
  have hWs : w.heap.size + 3 < W.heap.size := hR.lt
  clear hM hRf hE hS hW k1 k2
  clear hi hX hb1 hb2 hx1 hx2
  go_enter Try.func100, Try.ntmps100
  go_wp2_with fail
  rw [HW.out]
  refine (Hmv.out).mono ?_
  rintro e1 w1 ⟨⟨p'', c'', rfl, hI, hfr⟩, hb1⟩
  have hR1 := hR.keep hb1
  have q0 := hR1.c0
  have q1 := hR1.c1
  have q2 := hR1.c2
  have q3 := hR1.c3
  have q4 := hR1.c4
  have q5 := hR1.c5
  have q6 := hR1.c6
  have f3 := fun i => (hb1.frozen (p := ⟨w.heap.size + 3, i, none⟩) hR.lt).trans (HRf.out i)
  have f0 := f3 0
  have f1 := f3 1
  have f2 := f3 2
  have f3' := f3 3
  have f4 := f3 4
  have f5 := f3 5
  have f6 := f3 6
  have hlt1 := hR1.lt
  have hb := below_t hbW hb1
  clear f3 hR hR1 Hmv
  go_wp2_with fail
  refine bodyPost_ret (v := .agg #[.int .i64 k, .int .i64 b, .int .i64 E, .slice p'' s.length c'', .int .i64 S, .int .i64 sp, .int .i64 md]) (by simp [results, Try.results100, go_sem, q0, q1, q2, q3, q4, q5, q6]) rfl ?_
  refine ⟨⟨p'', c'', rfl, ?_⟩, ?_⟩
  · have hoth : s = [] ∨ ∀ x y, p'' = some ⟨x, y, none⟩ → ¬ x = w.heap.size + 1 + 1 + 1 := by
      rcases hfr with h1 | ⟨x', y', h1, h2⟩
      · exact .inl h1
      · refine .inr fun x y hxy => ?_
        rw [h1] at hxy
        cases hxy
        omega
    have hset : ∀ (W : World) (v : Value) (o : Nat), Chg (fun j => j = w.heap.size + 1 + 1 + 1) W (W.setCell ⟨w.heap.size + 1 + 1 + 1, o, none⟩ v) := fun W v o => (Chg.refl (fun j => j = w.heap.size + 1 + 1 + 1) W).set (p := ⟨w.heap.size + 1 + 1 + 1, o, none⟩) rfl v
    exact ((((((hI.chg' (hset _ _ _) hoth).chg' (hset _ _ _) hoth).chg' (hset _ _ _) hoth).chg' (hset _ _ _) hoth).chg' (hset _ _ _) hoth).chg' (hset _ _ _) hoth).chg' (hset _ _ _) hoth
  · have hle : w.heap.size ≤ w.heap.size + 1 + 1 + 1 := by omega
    exact ((((((hb.setCell (p := ⟨w.heap.size + 1 + 1 + 1, 0, none⟩) hle _).setCell (p := ⟨w.heap.size + 1 + 1 + 1, 1, none⟩) hle _).setCell (p := ⟨w.heap.size + 1 + 1 + 1, 2, none⟩) hle _).setCell (p := ⟨w.heap.size + 1 + 1 + 1, 3, none⟩) hle _).setCell (p := ⟨w.heap.size + 1 + 1 + 1, 4, none⟩) hle _).setCell (p := ⟨w.heap.size + 1 + 1 + 1, 5, none⟩) hle _).setCell (p := ⟨w.heap.size + 1 + 1 + 1, 6, none⟩) hle _

set_option maxRecDepth 100000 in
set_option maxHeartbeats 4000000 in
theorem Flip_any (k b e : Int) (p : Option Addr) (c : Nat) (s : List Int) (st sp md : Int) (n : Nat) (m X : Int) (w : World) (h : Ints w p s) (hl : s.length ≤ 1000000) (hk : k ≠ 1) (hn : n < s.length) (hm0 : -1000000 ≤ m) (hm1 : m ≤ 1000000) (hi : ∀ y ∈ s, -4000000000000000000 ≤ y ∧ y ≤ 4000000000000000000) (hX : firstS k e st + (m - 1) * nth s n = X) (hb1 : -4000000000000000000 ≤ (m - 1) * nth s n) (hb2 : (m - 1) * nth s n ≤ 4000000000000000000) (hx1 : -4000000000000000000 ≤ firstS k e st) (hx2 : firstS k e st ≤ 4000000000000000000) :
    Calls Try.prog 99 #[.agg #[.int .i64 k, .int .i64 b, .int .i64 e, .slice p s.length c, .int .i64 st, .int .i64 sp, .int .i64 md], .int .i64 (n : Int), .int .i64 m] w (MovedTo w k b (resE k e X) (s.set n (-(nth s n))) (resS k st X) sp md) := by
  obtain ⟨W, hW⟩ : ∃ W, (((w.alloc (.cells #[.int .i64 k, .int .i64 b, .int .i64 e, .slice p s.length c, .int .i64 st, .int .i64 sp, .int .i64 md] 93)).alloc (.cells #[.int .i64 (n : Int)] 3)).alloc (.cells #[.int .i64 m] 3)).alloc (.cells #[.int .i64 0, .int .i64 0, .int .i64 0, .slice none 0 0, .int .i64 0, .int .i64 0, .int .i64 0] 93) = W := ⟨_, rfl⟩
  have hbW : Below w.heap.size w W := by rw [← hW]; go_grown
  have k1 : W.cell? ⟨w.heap.size + 1, 0, none⟩ = some (.int .i64 (n : Int)) := by rw [← hW]; simp [go_sem]
  have k2 : W.cell? ⟨w.heap.size + 2, 0, none⟩ = some (.int .i64 m) := by rw [← hW]; simp [go_sem]
  have hR : At7 W (w.heap.size + 3) 0 0 0 (.slice none 0 0) 0 0 0 := by rw [← hW]; exact At7.new _ _ 0 0 0 (.slice none 0 0) 0 0 0 93 (by simp)
  have hRf : ∀ i, W.frozen? ⟨w.heap.size + 3, i, none⟩ = false := by intro i; rw [← hW]; simp [go_sem]
  have hM : Moves 121 #[.pointer (some ⟨w.heap.size + 1, 0, none⟩), .pointer (some ⟨w.heap.size + 2, 0, none⟩)] W (firstS k e st) X s (s.set n (-(nth s n))) [.int .i64 k, .int .i64 b, .int .i64 e, .slice p s.length c, .int .i64 st, .int .i64 sp, .int .i64 md] :=
    Flip1_moves _ _ _ _ W k1 k2 _ _ s _ n rfl hn hl hi hm0 hm1 hX hb1 hb2 hx1 hx2
  have Hmv := Lib.hid (moved_any 121 #[.pointer (some ⟨w.heap.size + 1, 0, none⟩), .pointer (some ⟨w.heap.size + 2, 0, none⟩)] k b e p c s st sp md X (s.set n (-(nth s n))) W (h.keep hbW) hl hk (enters_of Try.func121 (by kernel_rfl) rfl) hM)
  have HRf := Lib.hid hRf
  obtain ⟨E, hE⟩ : ∃ E, resE k e X = E := ⟨_, rfl⟩
  obtain ⟨S, hS⟩ : ∃ S, resS k st X = S := ⟨_, rfl⟩
  obtain ⟨Y, hY⟩ : ∃ Y, (s.set n (-(nth s n))) = Y := ⟨_, rfl⟩
  rw [hE, hS, hY] at Hmv
  rw [hE, hS, hY]
  have HW := Lib.hid hW
  have hWs : w.heap.size + 3 < W.heap.size := hR.lt
  clear hM hRf hE hS hY hW k1 k2
  clear hi hX hb1 hb2 hx1 hx2
  go_enter Try.func99, Try.ntmps99
  go_wp2_with fail
  rw [HW.out]
  refine (Hmv.out).mono ?_
  rintro e1 w1 ⟨⟨p'', c'', rfl, hI, hfr⟩, hb1⟩
  have hR1 := hR.keep hb1
  have q0 := hR1.c0
  have q1 := hR1.c1
  have q2 := hR1.c2
  have q3 := hR1.c3
  have q4 := hR1.c4
  have q5 := hR1.c5
  have q6 := hR1.c6
  have f3 := fun i => (hb1.frozen (p := ⟨w.heap.size + 3, i, none⟩) hR.lt).trans (HRf.out i)
  have f0 := f3 0
  have f1 := f3 1
  have f2 := f3 2
  have f3' := f3 3
  have f4 := f3 4
  have f5 := f3 5
  have f6 := f3 6
  have hlt1 := hR1.lt
  have hb := below_t hbW hb1
  clear f3 hR hR1 Hmv
  go_wp2_with fail
  refine bodyPost_ret (v := .agg #[.int .i64 k, .int .i64 b, .int .i64 E, .slice p'' Y.length c'', .int .i64 S, .int .i64 sp, .int .i64 md]) (by simp [results, Try.results99, go_sem, q0, q1, q2, q3, q4, q5, q6]) rfl ?_
  refine ⟨⟨p'', c'', rfl, ?_⟩, ?_⟩
  · have hoth : Y = [] ∨ ∀ x y, p'' = some ⟨x, y, none⟩ → ¬ x = w.heap.size + 1 + 1 + 1 := by
      rcases hfr with h1 | ⟨x', y', h1, h2⟩
      · exact .inl h1
      · refine .inr fun x y hxy => ?_
        rw [h1] at hxy
        cases hxy
        omega
    have hset : ∀ (W : World) (v : Value) (o : Nat), Chg (fun j => j = w.heap.size + 1 + 1 + 1) W (W.setCell ⟨w.heap.size + 1 + 1 + 1, o, none⟩ v) := fun W v o => (Chg.refl (fun j => j = w.heap.size + 1 + 1 + 1) W).set (p := ⟨w.heap.size + 1 + 1 + 1, o, none⟩) rfl v
    exact ((((((hI.chg' (hset _ _ _) hoth).chg' (hset _ _ _) hoth).chg' (hset _ _ _) hoth).chg' (hset _ _ _) hoth).chg' (hset _ _ _) hoth).chg' (hset _ _ _) hoth).chg' (hset _ _ _) hoth
  · have hle : w.heap.size ≤ w.heap.size + 1 + 1 + 1 := by omega
    exact ((((((hb.setCell (p := ⟨w.heap.size + 1 + 1 + 1, 0, none⟩) hle _).setCell (p := ⟨w.heap.size + 1 + 1 + 1, 1, none⟩) hle _).setCell (p := ⟨w.heap.size + 1 + 1 + 1, 2, none⟩) hle _).setCell (p := ⟨w.heap.size + 1 + 1 + 1, 3, none⟩) hle _).setCell (p := ⟨w.heap.size + 1 + 1 + 1, 4, none⟩) hle _).setCell (p := ⟨w.heap.size + 1 + 1 + 1, 5, none⟩) hle _).setCell (p := ⟨w.heap.size + 1 + 1 + 1, 6, none⟩) hle _

set_option maxRecDepth 100000 in
set_option maxHeartbeats 4000000 in
theorem Permute_any (k b e : Int) (p : Option Addr) (c : Nat) (s : List Int) (st sp md : Int) (q : Option Addr) (d : Nat) (perm : List Int) (m : Nat) (w : World) (h : Ints w p s) (hl : s.length ≤ 1000000) (hk : k ≠ 1) (hq : Ints w q perm) (hlp : perm.length = s.length) (hp : perm.length ≤ 16) (hm : m ≤ 1000000) (hj : ∀ j ∈ perm, 0 ≤ j ∧ j < (m : Int)) (hy : ∀ y ∈ s, -1099511627776 ≤ y ∧ y ≤ 1099511627776) :
    Calls Try.prog 72 #[.agg #[.int .i64 k, .int .i64 b, .int .i64 e, .slice p s.length c, .int .i64 st, .int .i64 sp, .int .i64 md], .slice q perm.length d, .int .i64 (m : Int)] w (MovedTo w k b (resE k e (firstS k e st)) (permF perm s (List.replicate m 0)) (resS k st (firstS k e st)) sp md) := by
  obtain ⟨W, hW⟩ : ∃ W, (((w.alloc (.cells #[.int .i64 k, .int .i64 b, .int .i64 e, .slice p s.length c, .int .i64 st, .int .i64 sp, .int .i64 md] 93)).alloc (.cells #[.slice q perm.length d] 22)).alloc (.cells #[.int .i64 (m : Int)] 3)).alloc (.cells #[.int .i64 0, .int .i64 0, .int .i64 0, .slice none 0 0, .int .i64 0, .int .i64 0, .int .i64 0] 93) = W := ⟨_, rfl⟩
  have hbW : Below w.heap.size w W := by rw [← hW]; go_grown
  have k1 : W.cell? ⟨w.heap.size + 1, 0, none⟩ = some (.slice q perm.length d) := by rw [← hW]; simp [go_sem]
  have k2 : W.cell? ⟨w.heap.size + 2, 0, none⟩ = some (.int .i64 (m : Int)) := by rw [← hW]; simp [go_sem]
  have hR : At7 W (w.heap.size + 3) 0 0 0 (.slice none 0 0) 0 0 0 := by rw [← hW]; exact At7.new _ _ 0 0 0 (.slice none 0 0) 0 0 0 93 (by simp)
  have hRf : ∀ i, W.frozen? ⟨w.heap.size + 3, i, none⟩ = false := by intro i; rw [← hW]; simp [go_sem]
  have hM : Moves 111 #[.pointer (some ⟨w.heap.size + 1, 0, none⟩), .pointer (some ⟨w.heap.size + 2, 0, none⟩)] W (firstS k e st) (firstS k e st) s (permF perm s (List.replicate m 0)) [.int .i64 k, .int .i64 b, .int .i64 e, .slice p s.length c, .int .i64 st, .int .i64 sp, .int .i64 md] :=
    Permute1_moves _ _ q d perm m W k1 k2 (hq.keep hbW) _ s _ hlp hp hm hj hy
  have Hmv := Lib.hid (moved_any 111 #[.pointer (some ⟨w.heap.size + 1, 0, none⟩), .pointer (some ⟨w.heap.size + 2, 0, none⟩)] k b e p c s st sp md (firstS k e st) (permF perm s (List.replicate m 0)) W (h.keep hbW) hl hk (enters_of Try.func111 (by kernel_rfl) rfl) hM)
  have HRf := Lib.hid hRf
  obtain ⟨E, hE⟩ : ∃ E, resE k e (firstS k e st) = E := ⟨_, rfl⟩
  obtain ⟨S, hS⟩ : ∃ S, resS k st (firstS k e st) = S := ⟨_, rfl⟩
  obtain ⟨Y, hY⟩ : ∃ Y, (permF perm s (List.replicate m 0)) = Y := ⟨_, rfl⟩
  rw [hE, hS, hY] at Hmv
  rw [hE, hS, hY]
  have HW := Lib.hid hW
  have hWs : w.heap.size + 3 < W.heap.size := hR.lt
  clear hM hRf hE hS hY hW k1 k2
  clear hlp hj hy
  go_enter Try.func72, Try.ntmps72
  go_wp2_with fail
  rw [HW.out]
  refine (Hmv.out).mono ?_
  rintro e1 w1 ⟨⟨p'', c'', rfl, hI, hfr⟩, hb1⟩
  have hR1 := hR.keep hb1
  have q0 := hR1.c0
  have q1 := hR1.c1
  have q2 := hR1.c2
  have q3 := hR1.c3
  have q4 := hR1.c4
  have q5 := hR1.c5
  have q6 := hR1.c6
  have f3 := fun i => (hb1.frozen (p := ⟨w.heap.size + 3, i, none⟩) hR.lt).trans (HRf.out i)
  have f0 := f3 0
  have f1 := f3 1
  have f2 := f3 2
  have f3' := f3 3
  have f4 := f3 4
  have f5 := f3 5
  have f6 := f3 6
  have hlt1 := hR1.lt
  have hb := below_t hbW hb1
  clear f3 hR hR1 Hmv
  go_wp2_with fail
  refine bodyPost_ret (v := .agg #[.int .i64 k, .int .i64 b, .int .i64 E, .slice p'' Y.length c'', .int .i64 S, .int .i64 sp, .int .i64 md]) (by simp [results, Try.results72, go_sem, q0, q1, q2, q3, q4, q5, q6]) rfl ?_
  refine ⟨⟨p'', c'', rfl, ?_⟩, ?_⟩
  · have hoth : Y = [] ∨ ∀ x y, p'' = some ⟨x, y, none⟩ → ¬ x = w.heap.size + 1 + 1 + 1 := by
      rcases hfr with h1 | ⟨x', y', h1, h2⟩
      · exact .inl h1
      · refine .inr fun x y hxy => ?_
        rw [h1] at hxy
        cases hxy
        omega
    have hset : ∀ (W : World) (v : Value) (o : Nat), Chg (fun j => j = w.heap.size + 1 + 1 + 1) W (W.setCell ⟨w.heap.size + 1 + 1 + 1, o, none⟩ v) := fun W v o => (Chg.refl (fun j => j = w.heap.size + 1 + 1 + 1) W).set (p := ⟨w.heap.size + 1 + 1 + 1, o, none⟩) rfl v
    exact ((((((hI.chg' (hset _ _ _) hoth).chg' (hset _ _ _) hoth).chg' (hset _ _ _) hoth).chg' (hset _ _ _) hoth).chg' (hset _ _ _) hoth).chg' (hset _ _ _) hoth).chg' (hset _ _ _) hoth
  · have hle : w.heap.size ≤ w.heap.size + 1 + 1 + 1 := by omega
    exact ((((((hb.setCell (p := ⟨w.heap.size + 1 + 1 + 1, 0, none⟩) hle _).setCell (p := ⟨w.heap.size + 1 + 1 + 1, 1, none⟩) hle _).setCell (p := ⟨w.heap.size + 1 + 1 + 1, 2, none⟩) hle _).setCell (p := ⟨w.heap.size + 1 + 1 + 1, 3, none⟩) hle _).setCell (p := ⟨w.heap.size + 1 + 1 + 1, 4, none⟩) hle _).setCell (p := ⟨w.heap.size + 1 + 1 + 1, 5, none⟩) hle _).setCell (p := ⟨w.heap.size + 1 + 1 + 1, 6, none⟩) hle _

end Go.Proofs.Ythkfjdhakbjllaa
