/- What the access of a moving form, access.moved, Shift, Flip and Permute return. Conditions: the axes are in range, the numbers not too large. -/
import Derived.Test.YthkfjdhakbjllaaAcc7
namespace Go.Proofs.Ythkfjdhakbjllaa
open Go.RowKit Go.Shelf
set_option linter.unusedVariables false
set_option linter.unusedSimpArgs false

def resE (k e X : Int) : Int := if k = 3 then e else X
def resS (k st X : Int) : Int := if k = 3 then X else st

set_option maxRecDepth 100000 in
set_option maxHeartbeats 2000000 in
theorem macc_3 (g : Nat) (X : Int) (p'' : Option Addr) (c'' : Nat) (ys : List Int) (k b e : Int) (p : Option Addr) (n c : Nat) (st sp md : Int) (w : World) (h : Lin w g X p'' c'' ys [.int .i64 k, .int .i64 b, .int .i64 e, .slice p n c, .int .i64 st, .int .i64 sp, .int .i64 md]) (hk : k = 3) :
    Calls Try.prog 127 #[.pointer (some ⟨g, 0, none⟩)] w fun e' w' => e' = .returned (.agg #[.int .i64 k, .int .i64 b, .int .i64 (resE k e X), .slice p'' ys.length c'', .int .i64 (resS k st X), .int .i64 sp, .int .i64 md]) ∧ Below w.heap.size w w' := by
  have hg := Own.lt h
  have h0 := Own.cell h (i := 0) rfl
  have h1 := Own.cell h (i := 1) rfl
  have h2 := Own.cell h (i := 2) rfl
  have h3 := Own.cell h (i := 3) rfl
  have h4 := Own.cell h (i := 4) rfl
  have h5 := Own.cell h (i := 5) rfl
  have h6 := Own.cell h (i := 6) rfl
  have h7 := Own.cell h (i := 7) rfl
  have h8 := Own.cell h (i := 8) rfl
  have hb1 := below_alloc w (.cells #[.int .i64 0, .int .i64 0, .int .i64 0, .slice none 0 0, .int .i64 0, .int .i64 0, .int .i64 0] 93)
  have hbo := below_t hb1 (below_alloc _ (.cells #[.int .i64 k, .int .i64 b, .int .i64 e, .slice p n c, .int .i64 st, .int .i64 sp, .int .i64 md] 93))
  have hb3 := below_t hb1 (below_alloc _ (.cells #[.int .i64 k, .int .i64 b, .int .i64 e, .slice p'' ys.length c'', .int .i64 st, .int .i64 sp, .int .i64 md] 93))
  have r2 := (hb1.cell (p := ⟨g, 2, none⟩) hg).trans h2
  have r3 := (hb1.cell (p := ⟨g, 3, none⟩) hg).trans h3
  have r4 := (hb1.cell (p := ⟨g, 4, none⟩) hg).trans h4
  have r5 := (hb1.cell (p := ⟨g, 5, none⟩) hg).trans h5
  have r6 := (hb1.cell (p := ⟨g, 6, none⟩) hg).trans h6
  have r7 := (hb1.cell (p := ⟨g, 7, none⟩) hg).trans h7
  have r8 := (hb1.cell (p := ⟨g, 8, none⟩) hg).trans h8
  have r1 := (hbo.cell (p := ⟨g, 1, none⟩) hg).trans h1
  have r0 := (hb3.cell (p := ⟨g, 0, none⟩) hg).trans h0
  clear hb1 hbo hb3
  have hne1 : ¬ w.heap.size = g := by omega
  have hne2 : ¬ w.heap.size + 1 = g := by omega
  have hne3 : ¬ g = w.heap.size := by omega
  have hne4 : ¬ g = w.heap.size + 1 := by omega
  have hkb : (k == 3) = true := by simp [hk]
  have He : Hid (resE k e X = e) := if_pos hk
  have Hs : Hid (resS k st X = X) := if_pos hk
  clear hk
  go_enter Try.func127, Try.ntmps127
  go_wp2_with fail
  refine bodyPost_ret (v := .agg #[.int .i64 k, .int .i64 b, .int .i64 e, .slice p'' ys.length c'', .int .i64 X, .int .i64 sp, .int .i64 md]) (by simp [results, Try.results127, go_sem]) rfl ?_
  refine ⟨by rw [He.out, Hs.out], ?_⟩
  go_grown

set_option maxRecDepth 100000 in
set_option maxHeartbeats 2000000 in
theorem macc_n (g : Nat) (X : Int) (p'' : Option Addr) (c'' : Nat) (ys : List Int) (k b e : Int) (p : Option Addr) (n c : Nat) (st sp md : Int) (w : World) (h : Lin w g X p'' c'' ys [.int .i64 k, .int .i64 b, .int .i64 e, .slice p n c, .int .i64 st, .int .i64 sp, .int .i64 md]) (hk : k ≠ 3) :
    Calls Try.prog 127 #[.pointer (some ⟨g, 0, none⟩)] w fun e' w' => e' = .returned (.agg #[.int .i64 k, .int .i64 b, .int .i64 (resE k e X), .slice p'' ys.length c'', .int .i64 (resS k st X), .int .i64 sp, .int .i64 md]) ∧ Below w.heap.size w w' := by
  have hg := Own.lt h
  have h0 := Own.cell h (i := 0) rfl
  have h1 := Own.cell h (i := 1) rfl
  have h2 := Own.cell h (i := 2) rfl
  have h3 := Own.cell h (i := 3) rfl
  have h4 := Own.cell h (i := 4) rfl
  have h5 := Own.cell h (i := 5) rfl
  have h6 := Own.cell h (i := 6) rfl
  have h7 := Own.cell h (i := 7) rfl
  have h8 := Own.cell h (i := 8) rfl
  have hb1 := below_alloc w (.cells #[.int .i64 0, .int .i64 0, .int .i64 0, .slice none 0 0, .int .i64 0, .int .i64 0, .int .i64 0] 93)
  have hbo := below_t hb1 (below_alloc _ (.cells #[.int .i64 k, .int .i64 b, .int .i64 e, .slice p n c, .int .i64 st, .int .i64 sp, .int .i64 md] 93))
  have hb3 := below_t hb1 (below_alloc _ (.cells #[.int .i64 k, .int .i64 b, .int .i64 e, .slice p'' ys.length c'', .int .i64 st, .int .i64 sp, .int .i64 md] 93))
  have r2 := (hb1.cell (p := ⟨g, 2, none⟩) hg).trans h2
  have r3 := (hb1.cell (p := ⟨g, 3, none⟩) hg).trans h3
  have r4 := (hb1.cell (p := ⟨g, 4, none⟩) hg).trans h4
  have r5 := (hb1.cell (p := ⟨g, 5, none⟩) hg).trans h5
  have r6 := (hb1.cell (p := ⟨g, 6, none⟩) hg).trans h6
  have r7 := (hb1.cell (p := ⟨g, 7, none⟩) hg).trans h7
  have r8 := (hb1.cell (p := ⟨g, 8, none⟩) hg).trans h8
  have r1 := (hbo.cell (p := ⟨g, 1, none⟩) hg).trans h1
  have r0 := (hb3.cell (p := ⟨g, 0, none⟩) hg).trans h0
  clear hb1 hbo hb3
  have hne1 : ¬ w.heap.size = g := by omega
  have hne2 : ¬ w.heap.size + 1 = g := by omega
  have hne3 : ¬ g = w.heap.size := by omega
  have hne4 : ¬ g = w.heap.size + 1 := by omega
  have hkb : (k == 3) = false := by simp [hk]
  have He : Hid (resE k e X = X) := if_neg hk
  have Hs : Hid (resS k st X = st) := if_neg hk
  clear hk
  go_enter Try.func127, Try.ntmps127
  go_wp2
  refine bodyPost_ret (v := .agg #[.int .i64 k, .int .i64 b, .int .i64 X, .slice p'' ys.length c'', .int .i64 st, .int .i64 sp, .int .i64 md]) (by simp [results, Try.results127, go_sem]) rfl ?_
  refine ⟨by rw [He.out, Hs.out], ?_⟩
  go_grown

theorem macc_any (g : Nat) (X : Int) (p'' : Option Addr) (c'' : Nat) (ys : List Int) (k b e : Int) (p : Option Addr) (n c : Nat) (st sp md : Int) (w : World) (h : Lin w g X p'' c'' ys [.int .i64 k, .int .i64 b, .int .i64 e, .slice p n c, .int .i64 st, .int .i64 sp, .int .i64 md]) :
    Calls Try.prog 127 #[.pointer (some ⟨g, 0, none⟩)] w fun e' w' => e' = .returned (.agg #[.int .i64 k, .int .i64 b, .int .i64 (resE k e X), .slice p'' ys.length c'', .int .i64 (resS k st X), .int .i64 sp, .int .i64 md]) ∧ Below w.heap.size w w' := by
  by_cases hk : k = 3
  · exact macc_3 g X p'' c'' ys k b e p n c st sp md w h hk
  · exact macc_n g X p'' c'' ys k b e p n c st sp md w h hk

/-- what a function value does to a linear form -/
def Moves (gf : Nat) (lb : Array Value) (w0 : World) (x X : Int) (s ys : List Int) (rest : List Value) : Prop :=
  ∀ W g p' c', Below w0.heap.size w0 W → w0.heap.size + 2 ≤ W.heap.size → w0.heap.size + 2 < g → Lin W g x p' c' s rest → New (w0.heap.size + 2) W p' 3 (s.map (.int .i64)) →
    Calls Try.prog gf (#[.pointer (some ⟨g, 0, none⟩)] ++ lb) W fun e W' => (∃ v, e = .returned v) ∧ (∃ p'' c'', Lin W' g X p'' c'' ys rest ∧ Ints W' p'' ys ∧ (ys = [] ∨ ∃ x y, p'' = some ⟨x, y, none⟩ ∧ w0.heap.size + 2 ≤ x)) ∧ Chg (fun j => j = g ∨ (p' = some ⟨j, 0, none⟩ ∧ s ≠ [])) W W'

def MovedTo (w : World) (k b e : Int) (ys : List Int) (st sp md : Int) (e' : Ending) (w' : World) : Prop :=
  (∃ p'' c'', e' = .returned (.agg #[.int .i64 k, .int .i64 b, .int .i64 e, .slice p'' ys.length c'', .int .i64 st, .int .i64 sp, .int .i64 md]) ∧ Ints w' p'' ys) ∧ Below w.heap.size w w'

def MovedF (w : World) (k b e : Int) (ys : List Int) (st sp md : Int) (e' : Ending) (w' : World) : Prop :=
  (∃ p'' c'', e' = .returned (.agg #[.int .i64 k, .int .i64 b, .int .i64 e, .slice p'' ys.length c'', .int .i64 st, .int .i64 sp, .int .i64 md]) ∧ Ints w' p'' ys ∧ (ys = [] ∨ ∃ x y, p'' = some ⟨x, y, none⟩ ∧ w.heap.size ≤ x)) ∧ Below w.heap.size w w'

set_option maxRecDepth 100000 in
set_option maxHeartbeats 2000000 in
theorem moved_fill (gf : Nat) (lb : Array Value) (b e : Int) (p : Option Addr) (c : Nat) (s : List Int) (st sp md : Int) (w : World) (h : Ints w p s) :
    Calls Try.prog 110 #[.agg #[.int .i64 1, .int .i64 b, .int .i64 e, .slice p s.length c, .int .i64 st, .int .i64 sp, .int .i64 md], .func (.func gf) #[] lb] w (MovedTo w 1 b e s st sp md) := by
  go_enter Try.func110, Try.ntmps110
  go_wp2
  refine bodyPost_ret (v := .agg #[.int .i64 1, .int .i64 b, .int .i64 e, .slice p s.length c, .int .i64 st, .int .i64 sp, .int .i64 md]) (by simp [results, Try.results110, go_sem]) rfl ?_
  refine ⟨⟨p, c, rfl, ?_⟩, ?_⟩
  · exact h.keep (by go_grown)
  · go_grown

set_option maxRecDepth 100000 in
set_option maxHeartbeats 2000000 in
theorem moved_any (gf : Nat) (lb : Array Value) (k b e : Int) (p : Option Addr) (c : Nat) (s : List Int) (st sp md : Int) (X : Int) (ys : List Int) (w : World) (h : Ints w p s) (hl : s.length ≤ 1000000) (hk : k ≠ 1) (eg : ∀ args w, (callFunc gf args).run Try.prog w = .ok (.enter gf args) w)
    (hM : Moves gf lb w (firstS k e st) X s ys [.int .i64 k, .int .i64 b, .int .i64 e, .slice p s.length c, .int .i64 st, .int .i64 sp, .int .i64 md]) :
    Calls Try.prog 110 #[.agg #[.int .i64 k, .int .i64 b, .int .i64 e, .slice p s.length c, .int .i64 st, .int .i64 sp, .int .i64 md], .func (.func gf) #[] lb] w (MovedF w k b (resE k e X) ys (resS k st X) sp md) := by
  have hkb : (k == 1) = false := by simp [hk]
  have HM := Lib.hid hM
  clear hM hk
  go_enter Try.func110, Try.ntmps110
  go_wp2_with fail
  refine (open_any k b e p c s st sp md _ (h.keep (below_two _ _ _)) hl).mono ?_
  rintro e1 w1 ⟨g, p', c', rfl, hg, hO, hN, hb1⟩
  have hr := (At7.new (w.alloc (.cells #[.int .i64 k, .int .i64 b, .int .i64 e, .slice p s.length c, .int .i64 st, .int .i64 sp, .int .i64 md] 93)) (w.heap.size + 1) 0 0 0 (.slice none 0 0) 0 0 0 93 (by simp)).keep hb1
  have hrf := fun i => hb1.frozen (p := ⟨w.heap.size + 1, i, none⟩) (by simp)
  have hb := below_2 hb1
  have hgw : w.heap.size + 2 < g := by simp at hg; omega
  have hL : Lin w1 g (firstS k e st) p' c' s [.int .i64 k, .int .i64 b, .int .i64 e, .slice p s.length c, .int .i64 st, .int .i64 sp, .int .i64 md] := hO
  have hN' : New (w.heap.size + 2) w1 p' 3 (s.map (.int .i64)) := New.mono hN (by simp)
  have hz1 : w.heap.size + 2 ≤ w1.heap.size := by have := hb1.size; simp at this; omega
  have hnr : ¬ ((w.heap.size + 1 = g) ∨ (p' = some ⟨w.heap.size + 1, 0, none⟩ ∧ s ≠ [])) := by
    rintro (h1 | ⟨h1, h2⟩)
    · omega
    · rcases hN' with h3 | ⟨g', h3, h4, -⟩
      · exact h2 (by simpa using h3)
      · rw [h1] at h3
        cases h3
        omega
  have hrf' : ∀ i, w1.frozen? ⟨w.heap.size + 1, i, none⟩ = false := fun i => by rw [hrf i]; simp [go_sem]
  have Hrf := Lib.hid hrf'
  have Hnr := Lib.hid hnr
  have hlt := hr.lt
  have hN'' := Lib.hid hN'
  have hHL := Lib.hid hL
  clear hrf hrf' hnr hN hN' hO hL hb1
  go_wp2_with fail
  refine (HM.out w1 g p' c' hb hz1 hgw hHL.out hN''.out).mono ?_
  rintro e2 w2 ⟨⟨v, rfl⟩, ⟨p'', c'', hL2, hI2, hfr⟩, hch⟩
  have hr2 : At7 w2 (w.heap.size + 1) 0 0 0 (.slice none 0 0) 0 0 0 := by
    have hk := fun i => hch.cell (p := ⟨w.heap.size + 1, i, none⟩) hlt Hnr.out
    exact ⟨Nat.lt_of_lt_of_le hlt hch.size, (hk 0).trans hr.c0, (hk 1).trans hr.c1, (hk 2).trans hr.c2, (hk 3).trans hr.c3, (hk 4).trans hr.c4, (hk 5).trans hr.c5, (hk 6).trans hr.c6⟩
  have hf2 : Hid (∀ i, w2.frozen? ⟨w.heap.size + 1, i, none⟩ = false) := fun i => (hch.frozen (p := ⟨w.heap.size + 1, i, none⟩) hlt Hnr.out).trans (Hrf.out i)
  have hbw : Below w.heap.size w w2 := by
    refine hb.trans (hch.below (by omega) ?_)
    rintro j (h1 | ⟨h1, h2⟩)
    · omega
    · rcases hN''.out with h3 | ⟨g', h3, h4, -⟩
      · exact absurd (by simpa using h3) h2
      · rw [h1] at h3
        cases h3
        omega
  clear hch hr hlt
  go_wp2_with fail
  refine (macc_any g X p'' c'' ys k b e p s.length c st sp md _ hL2).mono ?_
  rintro e3 w3 ⟨rfl, hb3⟩
  have hr3 := hr2.keep hb3
  have hlt3 := hr3.lt
  have q0 := hr3.c0
  have q1 := hr3.c1
  have q2 := hr3.c2
  have q3 := hr3.c3
  have q4 := hr3.c4
  have q5 := hr3.c5
  have q6 := hr3.c6
  have f3 := fun i => (hb3.frozen (p := ⟨w.heap.size + 1, i, none⟩) hr2.lt).trans (hf2.out i)
  have f0 := f3 0
  have f1 := f3 1
  have f2 := f3 2
  have f3' := f3 3
  have f4 := f3 4
  have f5 := f3 5
  have f6 := f3 6
  have hI3 := hI2.keep hb3
  have hb := below_t hbw hb3
  obtain ⟨E, hE⟩ : ∃ E, resE k e X = E := ⟨_, rfl⟩
  obtain ⟨S, hS⟩ : ∃ S, resS k st X = S := ⟨_, rfl⟩
  rw [hE, hS]
  have HE := Lib.hid hE
  have HS := Lib.hid hS
  clear f3 hr2 hr3 hL2 hI2 hbw hb3 hE hS
  go_wp2_with fail
  refine bodyPost_ret (v := .agg #[.int .i64 k, .int .i64 b, .int .i64 E, .slice p'' ys.length c'', .int .i64 S, .int .i64 sp, .int .i64 md]) (by simp [results, Try.results110, go_sem, q0, q1, q2, q3, q4, q5, q6]) rfl ?_
  refine ⟨⟨p'', c'', by rw [HE.out, HS.out], ?_, hfr.imp id fun ⟨x, y, h1, h2⟩ => ⟨x, y, h1, by omega⟩⟩, ?_⟩
  · have hoth : ys = [] ∨ ∀ x y, p'' = some ⟨x, y, none⟩ → ¬ x = w.heap.size + 1 := by
      rcases hfr with h1 | ⟨x', y', h1, h2⟩
      · exact .inl h1
      · refine .inr fun x y hxy => ?_
        rw [h1] at hxy
        cases hxy
        omega
    have hset : ∀ (W : World) (v : Value) (o : Nat), Chg (fun j => j = w.heap.size + 1) W (W.setCell ⟨w.heap.size + 1, o, none⟩ v) := fun W v o => (Chg.refl (fun j => j = w.heap.size + 1) W).set (p := ⟨w.heap.size + 1, o, none⟩) rfl v
    exact ((((((hI3.chg' (hset _ _ _) hoth).chg' (hset _ _ _) hoth).chg' (hset _ _ _) hoth).chg' (hset _ _ _) hoth).chg' (hset _ _ _) hoth).chg' (hset _ _ _) hoth).chg' (hset _ _ _) hoth
  · exact ((((((hb.setCell (Nat.le_succ _) _).setCell (Nat.le_succ _) _).setCell (Nat.le_succ _) _).setCell (Nat.le_succ _) _).setCell (Nat.le_succ _) _).setCell (Nat.le_succ _) _).setCell (Nat.le_succ _) _

/-- the row of a moving form's own strides -/
theorem row_of_new {B : Nat} {w : World} {p' : Option Addr} {s : List Int} (h : New B w p' 3 (s.map (.int .i64))) (hs : 0 < s.length) : ∃ g2, p' = some ⟨g2, 0, none⟩ ∧ B ≤ g2 ∧ Own w g2 3 (s.map (.int .i64)) := by
  rcases h with h | ⟨g2, h1, h2, h3⟩
  · have : s = [] := by simpa using h
    subst this
    simp at hs
  · exact ⟨g2, h1, h2, h3⟩
theorem own_kind {w : World} {g : Nat} {e e' : TypeId} {us vs : List Value} (h : Own w g e us) (h' : Own w g e' vs) : e = e' := by
  obtain ⟨r, h⟩ := h
  obtain ⟨r', h'⟩ := h'
  rw [h] at h'
  simp only [Option.some.injEq, Obj.cells.injEq] at h'
  exact h'.2.1

set_option maxRecDepth 100000 in
set_option maxHeartbeats 2000000 in
theorem Shift1_moves (b1 b2 : Nat) (a by' : Int) (w0 : World) (h1 : w0.cell? ⟨b1, 0, none⟩ = some (.int .i64 a)) (h2 : w0.cell? ⟨b2, 0, none⟩ = some (.int .i64 by')) (x X : Int) (s : List Int) (rest : List Value) (n : Nat) (ha : a = (n : Int)) (hn : n < s.length) (hs : s.length ≤ 1000000) (hi : ∀ y ∈ s, I64 y) (hX : x + by' * nth s n = X) (hb1 : -4000000000000000000 ≤ by' * nth s n) (hb2 : by' * nth s n ≤ 4000000000000000000) (hx1 : -4000000000000000000 ≤ x) (hx2 : x ≤ 4000000000000000000) :
    Moves 123 #[.pointer (some ⟨b1, 0, none⟩), .pointer (some ⟨b2, 0, none⟩)] w0 x X s s rest := by
  intro W g p' c' hb hsz hg hL hN
  subst ha
  have l1 := World.block_lt_of_cell? w0 _ h1
  have l2 := World.block_lt_of_cell? w0 _ h2
  have c1 := (hb.cell (p := ⟨b1, 0, none⟩) l1).trans h1
  have c2 := (hb.cell (p := ⟨b2, 0, none⟩) l2).trans h2
  have hI : Ints W p' s := hN.ints hi (by omega)
  have HX := Lib.hid hX
  have Hb1 := Lib.hid hb1
  have Hb2 := Lib.hid hb2
  have Hcall := Lib.hid (fun (W' : World) (hL' : Lin W' g x p' c' s rest) (hI' : Ints W' p' s) => shift_any g x p' c' s rest n by' X W' hL' hI' hn hX hb1 hb2 hx1 hx2)
  have HL := Lib.hid hL
  have HI := Lib.hid hI
  have HN := Lib.hid hN
  clear hX hb1 hb2 hL hI hN
  go_enter Try.func123, Try.ntmps123
  go_wp2_with fail
  go_region_with (first | (go_at_call 124; refine (Hcall.out _ (show Own W.drew g 131 _ from HL.out) (HI.out.keep ((Below.refl _ _).drew))).mono ?_; rintro e1 w1 ⟨⟨v, rfl⟩, hL1, hch⟩))
  all_goals
    go_wp2_with fail
    go_end0
    have hch' : Chg (fun j => j = g) W w1 := ((Chg.refl _ W).drewN 1).trans hch
    refine ⟨⟨_, rfl⟩, ⟨p', c', hL1, ?_, ?_⟩, hch'.mono fun j hj => .inl hj⟩
    · rcases HN.out with h | ⟨g2, h3, h4, h5⟩
      · have : s = [] := by simpa using h
        subst this
        simp at hn
      · subst h3
        have hne : g2 ≠ g := by
          intro e
          subst e
          exact absurd (own_kind h5 HL.out) (by decide)
        exact HI.out.chg hch' fun x y hxy => by cases hxy; exact hne
    · rcases HN.out with h | ⟨g2, h3, h4, h5⟩
      · exact .inl (by simpa using h)
      · exact .inr ⟨g2, 0, h3, h4⟩
end Go.Proofs.Ythkfjdhakbjllaa
