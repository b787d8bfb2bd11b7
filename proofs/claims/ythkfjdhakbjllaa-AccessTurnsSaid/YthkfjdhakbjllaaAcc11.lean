/- access.Permute of a fill; that the strides of both Permutes are one, and their sums of products. No condition beyond what each says. -/
import Derived.Test.YthkfjdhakbjllaaAcc10
namespace Go.Proofs.Ythkfjdhakbjllaa
open Go.RowKit Go.Shelf
set_option linter.unusedVariables false
set_option linter.unusedSimpArgs false

set_option maxRecDepth 100000 in
set_option maxHeartbeats 2000000 in
theorem moved_fill2 (gf : Nat) (lb : Array Value) (b e : Int) (p : Option Addr) (n c : Nat) (st sp md : Int) (w : World) :
    Calls Try.prog 110 #[.agg #[.int .i64 1, .int .i64 b, .int .i64 e, .slice p n c, .int .i64 st, .int .i64 sp, .int .i64 md], .func (.func gf) #[] lb] w fun e' w' => e' = .returned (.agg #[.int .i64 1, .int .i64 b, .int .i64 e, .slice p n c, .int .i64 st, .int .i64 sp, .int .i64 md]) ∧ Below w.heap.size w w' := by
  go_enter Try.func110, Try.ntmps110
  go_wp2
  refine bodyPost_ret (v := .agg #[.int .i64 1, .int .i64 b, .int .i64 e, .slice p n c, .int .i64 st, .int .i64 sp, .int .i64 md]) (by simp [results, Try.results110, go_sem]) rfl ⟨rfl, ?_⟩
  go_grown

set_option maxRecDepth 100000 in
set_option maxHeartbeats 4000000 in
theorem Permute_fill (b e : Int) (p : Option Addr) (n c : Nat) (st sp md : Int) (q : Option Addr) (l d : Nat) (m : Int) (w : World) :
    Calls Try.prog 72 #[.agg #[.int .i64 1, .int .i64 b, .int .i64 e, .slice p n c, .int .i64 st, .int .i64 sp, .int .i64 md], .slice q l d, .int .i64 m] w fun e' w' => e' = .returned (.agg #[.int .i64 1, .int .i64 b, .int .i64 e, .slice p n c, .int .i64 st, .int .i64 sp, .int .i64 md]) ∧ Below w.heap.size w w' := by
  obtain ⟨W, hW⟩ : ∃ W, (((w.alloc (.cells #[.int .i64 1, .int .i64 b, .int .i64 e, .slice p n c, .int .i64 st, .int .i64 sp, .int .i64 md] 93)).alloc (.cells #[.slice q l d] 22)).alloc (.cells #[.int .i64 m] 3)).alloc (.cells #[.int .i64 0, .int .i64 0, .int .i64 0, .slice none 0 0, .int .i64 0, .int .i64 0, .int .i64 0] 93) = W := ⟨_, rfl⟩
  have hbW : Below w.heap.size w W := by rw [← hW]; go_grown
  have hR : At7 W (w.heap.size + 3) 0 0 0 (.slice none 0 0) 0 0 0 := by rw [← hW]; exact At7.new _ _ 0 0 0 (.slice none 0 0) 0 0 0 93 (by simp)
  have hRf : ∀ i, W.frozen? ⟨w.heap.size + 3, i, none⟩ = false := by intro i; rw [← hW]; simp [go_sem]
  have HRf := Lib.hid hRf
  have HW := Lib.hid hW
  have hWs : w.heap.size + 3 < W.heap.size := hR.lt
  clear hRf hW
  go_enter Try.func72, Try.ntmps72
  go_wp2_with fail
  rw [HW.out]
  refine (moved_fill2 _ _ b e p n c st sp md W).mono ?_
  rintro e1 w1 ⟨rfl, hb1⟩
  have hR1 := hR.keep hb1
  have q0 := hR1.c0
  have q1 := hR1.c1
  have q2 := hR1.c2
  have q3 := hR1.c3
  have q4 := hR1.c4
  have q5 := hR1.c5
  have q6 := hR1.c6
  have f3 := fun i => (hb1.frozen (p := ⟨w.heap.size + 3, i, none⟩) hR.lt).trans (HRf.out i)
  have f0 := f3 0
  have f1 := f3 1
  have f2 := f3 2
  have f3' := f3 3
  have f4 := f3 4
  have f5 := f3 5
  have f6 := f3 6
  have hb := below_t hbW hb1
  clear f3 hR hR1
  go_wp2_with fail
  refine bodyPost_ret (v := .agg #[.int .i64 1, .int .i64 b, .int .i64 e, .slice p n c, .int .i64 st, .int .i64 sp, .int .i64 md]) (by simp [results, Try.results72, go_sem, q0, q1, q2, q3, q4, q5, q6]) rfl ⟨rfl, ?_⟩
  have hle : w.heap.size ≤ w.heap.size + 1 + 1 + 1 := by omega
  exact ((((((hb.setCell (p := ⟨w.heap.size + 1 + 1 + 1, 0, none⟩) hle _).setCell (p := ⟨w.heap.size + 1 + 1 + 1, 1, none⟩) hle _).setCell (p := ⟨w.heap.size + 1 + 1 + 1, 2, none⟩) hle _).setCell (p := ⟨w.heap.size + 1 + 1 + 1, 3, none⟩) hle _).setCell (p := ⟨w.heap.size + 1 + 1 + 1, 4, none⟩) hle _).setCell (p := ⟨w.heap.size + 1 + 1 + 1, 5, none⟩) hle _).setCell (p := ⟨w.heap.size + 1 + 1 + 1, 6, none⟩) hle _

theorem permF_len (ps : List Int) : ∀ (ys o : List Int), (permF ps ys o).length = o.length := by
  induction ps with
  | nil => intro ys o; cases ys <;> rfl
  | cons p ps ih =>
    intro ys o
    cases ys with
    | nil => rfl
    | cons y ys => rw [permF, ih, List.length_set]

theorem permF_nth (ps : List Int) : ∀ (ys o : List Int), (∀ p ∈ ps, 0 ≤ p ∧ p < (o.length : Int)) → ∀ j : Nat, j < o.length → nth (permF ps ys o) j = nth o j + sumAt ps ys j := by
  induction ps with
  | nil => intro ys o _ j _; cases ys <;> simp [permF, sumAt]
  | cons p ps ih =>
    intro ys o hp j hj
    cases ys with
    | nil => simp [permF, sumAt]
    | cons y ys =>
      have h0 := hp p (List.mem_cons_self ..)
      rw [permF, ih ys _ (by rw [List.length_set]; exact fun q hq => hp q (List.mem_cons_of_mem _ hq)) j (by rw [List.length_set]; exact hj), sumAt]
      by_cases hpj : p = (j : Int)
      · subst hpj
        rw [Int.toNat_natCast, nth_set hj, if_pos rfl]
        omega
      · rw [nth_set_ne (by omega), if_neg hpj]
        omega

theorem nth_zeros (m j : Nat) : nth (List.replicate m 0) j = 0 := by
  unfold nth
  rw [List.getD_eq_getElem?_getD, List.getElem?_replicate]
  split <;> rfl

theorem permF_ref (ps ys : List Int) (m : Nat) (hp : ∀ p ∈ ps, 0 ≤ p ∧ p < (m : Int)) : permF ps ys (List.replicate m 0) = refS ps ys m := by
  refine ext_nth (by rw [permF_len, refS_len, List.length_replicate]) fun j hj => ?_
  rw [permF_len, List.length_replicate] at hj
  rw [permF_nth ps ys _ (by rw [List.length_replicate]; exact hp) j (by rw [List.length_replicate]; exact hj), refS_nth ps ys hj, nth_zeros]
  omega

theorem dotS_set : ∀ (o ix : List Int) (j : Nat) (y : Int), j < o.length → j < ix.length → dotS (o.set j (nth o j + y)) ix = dotS o ix + y * nth ix j
  | [], ix, j, y, h, _ => by simp at h
  | a :: o, [], j, y, _, h => by simp at h
  | a :: o, c :: ix, 0, y, _, _ => by
    show (a + y) * c + dotS o ix = a * c + dotS o ix + y * c
    rw [Int.add_mul]
    omega
  | a :: o, c :: ix, j + 1, y, h1, h2 => by
    have := dotS_set o ix j y (by simpa using h1) (by simpa using h2)
    show a * c + dotS (o.set j (nth o j + y)) ix = a * c + dotS o ix + y * nth ix j
    rw [this]
    omega

/-- the index that a permuted index comes from -/
def fromS (ps ix : List Int) : List Int := ps.map fun p => nth ix p.toNat

theorem dotS_perm (ps : List Int) : ∀ (ys o ix : List Int), ps.length = ys.length → o.length = ix.length → (∀ p ∈ ps, 0 ≤ p ∧ p < (ix.length : Int)) → dotS (permF ps ys o) ix = dotS o ix + dotS ys (fromS ps ix) := by
  induction ps with
  | nil =>
    intro ys o ix hl _ _
    have : ys = [] := List.eq_nil_of_length_eq_zero hl.symm
    subst this
    simp [permF, fromS, dotS]
  | cons p ps ih =>
    intro ys o ix hl ho hp
    cases ys with
    | nil => simp at hl
    | cons y ys =>
      have h0 := hp p (List.mem_cons_self ..)
      rw [permF, ih ys _ ix (by simpa using hl) (by rw [List.length_set]; exact ho) (fun q hq => hp q (List.mem_cons_of_mem _ hq)), dotS_set o ix _ y (by omega) (by omega)]
      show _ = dotS o ix + (y * nth ix p.toNat + dotS ys (fromS ps ix))
      omega

theorem dotS_zeros : ∀ (m : Nat) (ix : List Int), dotS (List.replicate m 0) ix = 0
  | 0, ix => by cases ix <;> rfl
  | m + 1, [] => rfl
  | m + 1, c :: ix => by
    show 0 * c + dotS (List.replicate m 0) ix = 0
    rw [dotS_zeros m ix]
    omega

theorem dot_perm (ps s ix : List Int) (hl : ps.length = s.length) (h16 : ps.length ≤ 16) (hi16 : ix.length ≤ 16) (hp : ∀ p ∈ ps, 0 ≤ p ∧ p < (ix.length : Int)) (hs : ∀ y ∈ s, -1000000000 ≤ y ∧ y ≤ 1000000000) (hx : ∀ y ∈ ix, -100000 ≤ y ∧ y ≤ 100000) :
    dotW (permF ps s (List.replicate ix.length 0)) ix 0 = dotW s (fromS ps ix) 0 ∧ (∀ y ∈ fromS ps ix, -100000 ≤ y ∧ y ≤ 100000) := by
  have hf : ∀ y ∈ fromS ps ix, -100000 ≤ y ∧ y ≤ 100000 := by
    intro y hy
    obtain ⟨p, hpm, rfl⟩ := List.mem_map.1 hy
    have := hp p hpm
    exact hx _ (nth_mem (by omega))
  refine ⟨?_, hf⟩
  rw [dotW_eq 10000000000000000 (by omega) _ ix 0, dotW_eq 10000000000000000 (by omega) s (fromS ps ix) 0, Int.zero_add, Int.zero_add, dotS_perm ps s _ ix hl (by simp) hp, dotS_zeros, Int.zero_add]
  · intro k h1 h2
    have := mul_bd (A := 1000000000) (B := 100000) (by omega) (by omega) (hs _ (nth_mem h1)) (hf _ (nth_mem h2))
    omega
  · omega
  · omega
  · intro k h1 h2
    rw [permF_len, List.length_replicate] at h1
    have hb := sumAt_bd ps s k hs
    have e := permF_nth ps s (List.replicate ix.length 0) (by rw [List.length_replicate]; exact hp) k (by rw [List.length_replicate]; exact h1)
    rw [nth_zeros, Int.zero_add] at e
    rw [e]
    have := mul_bd (A := 16000000000) (B := 100000) (x := sumAt ps s k) (by omega) (by omega) (by omega) (hx _ (nth_mem h1))
    omega
  · rw [permF_len, List.length_replicate]; omega
  · rw [permF_len, List.length_replicate]; omega
end Go.Proofs.Ythkfjdhakbjllaa
