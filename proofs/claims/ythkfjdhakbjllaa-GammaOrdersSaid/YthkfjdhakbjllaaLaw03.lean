/- The laws of layer 3 (gamma), walked: each returns true at all arguments and writes nothing that was there. -/
import Derived.Test.YthkfjdhakbjllaaGamma4
namespace Go.Proofs.Ythkfjdhakbjllaa
open Go.RowKit Go.Shelf
set_option linter.unusedVariables false

theorem i64_all {xs : List Int} (h : xs.all (fun x => decide (-9223372036854775808 ≤ x ∧ x ≤ 9223372036854775807)) = true) : ∀ x ∈ xs, I64 x := by
  intro x hx
  have := List.all_eq_true.1 h x hx
  simpa [I64] using this

theorem Ints.nil (w : World) : Ints w none [] := ⟨.inl rfl, by simp, by simp⟩

/-- an equality test whose outcome is known -/
theorem RefEqual_is (xs ys : List Int) (r : Bool) (hr : eqS xs ys = r) (a b : Option Addr) (c d : Nat) (w : World) (h : Ints w a xs) (h' : Ints w b ys) :
    Calls Try.prog 26 #[.slice a xs.length c, .slice b ys.length d] w fun e w' => e = .returned (.bool r) ∧ Below w.heap.size w w' :=
  (RefEqual_any a b c d xs ys w h h').mono fun e w' ⟨he, n, hw⟩ => ⟨by rw [he, hr], hw ▸ below_drewN _ _ _⟩

theorem Offset_is (s ix : List Int) (n : Int) (b : Bool) (hn : offS s ix = n) (hv : decide (Valid s ix) = b) (hs : shapeS s = 0) (p q : Option Addr) (c d : Nat) (w : World) (h : Ints w p s) (h' : Ints w q ix) :
    Calls Try.prog 20 #[.slice p s.length c, .slice q ix.length d] w fun e w' => e = .returned (.tuple #[.int .i64 n, .bool b]) ∧ Below w.heap.size w w' := by
  have := Offset_any p q c d s ix w h h' (shapeS_zero.1 hs)
  rw [hn, hv] at this
  exact this

theorem Index_is (s : List Int) (n : Int) (ix : List Int) (b : Bool) (hi : ixS s n = ix) (hb : inS s n = b) (a : Option Addr) (c : Nat) (w : World) (h : Ints w a s) :
    Calls Try.prog 21 #[.slice a s.length c, .int .i64 n] w fun e w' => (∃ q c', e = .returned (.tuple #[.slice q ix.length c', .bool b]) ∧ New w.heap.size w' q 3 (ix.map (.int .i64))) ∧ Below w.heap.size w w' := by
  have := Index_any' a c s n w h
  rw [hi, hb] at this
  exact this

theorem Valid_is (s ix : List Int) (b : Bool) (hv : decide (Valid s ix) = b) (p q : Option Addr) (c d : Nat) (w : World) (h : Ints w p s) (h' : Ints w q ix) :
    Calls Try.prog 22 #[.slice p s.length c, .slice q ix.length d] w fun e w' => e = .returned (.bool b) ∧ Below w.heap.size w w' :=
  (Valid_any p q c d s ix w h h').mono fun e w' ⟨he, n, hw⟩ => ⟨by rw [he, hv], hw ▸ below_drewN _ _ _⟩

theorem Dot_is (xs ys : List Int) (n : Int) (hn : dotW xs ys 0 = n) (p q : Option Addr) (c d : Nat) (w : World) (h : Ints w p xs) (h' : Ints w q ys) :
    Calls Try.prog 29 #[.slice p xs.length c, .slice q ys.length d] w fun e w' => e = .returned (.int .i64 n) ∧ Below w.heap.size w w' :=
  (Dot_any p q c d xs ys w h h').mono fun e w' ⟨he, n, hw⟩ => ⟨by rw [he, hn], hw ▸ below_drewN _ _ _⟩

set_option maxRecDepth 100000 in
set_option maxHeartbeats 1000000 in
theorem awake03 (w : World) : Calls Try.prog 18 #[] w fun e w' => e = .returned (.bool true) ∧ Below w.heap.size w w' := by
  go_enter Try.func18, Try.ntmps18
  go_wp2_with fail
  refine (Offset_is [2, 3] [1, 2] 5 true (by decide) (by decide) (by decide) _ _ _ _ _ ((Ints.lit _ _ [2, 3] _ (by simp) (i64_all (by decide)) (by simp)).keep (below_alloc _ _)) (Ints.lit _ _ [1, 2] _ (by simp) (i64_all (by decide)) (by simp))).mono ?_
  rintro e w1 ⟨rfl, hb1⟩
  have hw := below_2 hb1
  clear hb1
  go_wp2_with fail
  refine (Index_is [2, 3] 4 [1, 1] true (by decide) (by decide) _ _ _ (Ints.lit _ _ [2, 3] _ (by simp) (i64_all (by decide)) (by simp))).mono ?_
  rintro e w2 ⟨⟨q, c', rfl, hnew⟩, hb2⟩
  have hi := hnew.ints (i64_all (by decide)) (by simp)
  have hw := below_t hw (below_1 hb2)
  clear hb2 hnew
  go_wp2_with fail
  refine (Index_is [2, 3] 6 [] false (by decide) (by decide) _ _ _ (Ints.lit _ _ [2, 3] _ (by simp) (i64_all (by decide)) (by simp))).mono ?_
  rintro e w3 ⟨⟨q', c'', rfl, -⟩, hb3⟩
  have hi := hi.keep (below_1 hb3)
  have hw := below_t hw (below_1 hb3)
  clear hb3
  go_wp2_with fail
  refine (Offset_is [] [] 0 true (by decide) (by decide) (by decide) _ _ _ _ _ (Ints.nil _) (Ints.nil _)).mono ?_
  rintro e w4 ⟨rfl, hb4⟩
  have hi := hi.keep hb4
  have hw := below_t hw hb4
  clear hb4
  go_wp2_with fail
  refine (RefEqual_is [1, 1] [1, 1] true (by decide) _ _ _ _ _ (hi.keep (below_alloc _ _)) (Ints.lit _ _ [1, 1] _ (by simp) (i64_all (by decide)) (by simp))).mono ?_
  rintro e w5 ⟨rfl, hb5⟩
  have hw := below_t hw (below_1 hb5)
  clear hb5 hi
  go_wp2_with fail
  refine (Valid_is [1] [0] true (by decide) _ _ _ _ _ ((Ints.lit _ _ [1] _ (by simp) (i64_all (by decide)) (by simp)).keep (below_alloc _ _)) (Ints.lit _ _ [0] _ (by simp) (i64_all (by decide)) (by simp))).mono ?_
  rintro e w6 ⟨rfl, hb6⟩
  have hw := below_t hw (below_2 hb6)
  clear hb6
  go_wp2_with fail
  refine (Valid_is [1] [1] false (by decide) _ _ _ _ _ ((Ints.lit _ _ [1] _ (by simp) (i64_all (by decide)) (by simp)).keep (below_alloc _ _)) (Ints.lit _ _ [1] _ (by simp) (i64_all (by decide)) (by simp))).mono ?_
  rintro e w7 ⟨rfl, hb7⟩
  have hw := below_t hw (below_2 hb7)
  clear hb7
  go_wp2_with fail
  refine (Dot_is [2, 3] [4, 5, 6] 23 (by simp [dotW, wrap64]) _ _ _ _ _ ((Ints.lit _ _ [2, 3] _ (by simp) (i64_all (by decide)) (by simp)).keep (below_alloc _ _)) (Ints.lit _ _ [4, 5, 6] _ (by simp) (i64_all (by decide)) (by simp))).mono ?_
  rintro e w8 ⟨rfl, hb8⟩
  have hw := below_t hw (below_2 hb8)
  clear hb8
  go_wp2_with fail
  go_ret
  exact ⟨rfl, hw⟩

/-- the offset of the reference where there is one -/
theorem roffS_valid {s ix : List Int} (h : Valid s ix) : roffS s ix = offS s ix := by unfold roffS offS; rw [if_pos h, if_pos h]

theorem RefIndex_is (s : List Int) (n : Int) (hin : inS s n = true) (a : Option Addr) (c : Nat) (w : World) (h : Ints w a s) :
    Calls Try.prog 27 #[.slice a s.length c, .int .i64 n] w fun e w' => (∃ q c', e = .returned (.slice q (unoff s n).length c') ∧ Ints w' q (unoff s n)) ∧ Below w.heap.size w w' := by
  obtain ⟨hs, hp, -, hb, h1, h2, -⟩ := inS_shape hin
  refine (RefIndex_any a c s n w h hp hb h1 h2 hs.len).mono ?_
  rintro e w' ⟨⟨q, c', he, hnew⟩, hb'⟩
  refine ⟨⟨q, c', he, hnew.ints (fun x hx => ?_) (by rw [unoff_len]; have := hs.len; omega)⟩, hb'⟩
  have := unoff_bd hp hb h1 h2 x hx
  exact ⟨by omega, by omega⟩

theorem Index_ints (s : List Int) (n : Int) (a : Option Addr) (c : Nat) (w : World) (h : Ints w a s) :
    Calls Try.prog 21 #[.slice a s.length c, .int .i64 n] w fun e w' => (∃ q c', e = .returned (.tuple #[.slice q (ixS s n).length c', .bool (inS s n)]) ∧ Ints w' q (ixS s n)) ∧ Below w.heap.size w w' := by
  refine (Index_any' a c s n w h).mono ?_
  rintro e w' ⟨⟨q, c', he, hnew⟩, hb'⟩
  refine ⟨⟨q, c', he, hnew.ints ?_ ?_⟩, hb'⟩
  · unfold ixS
    split
    · rename_i hin
      obtain ⟨hs, hp, -, hb, h1, h2, -⟩ := inS_shape hin
      intro x hx
      have := unoff_bd hp hb h1 h2 x hx
      exact ⟨by omega, by omega⟩
    · simp
  · unfold ixS
    split
    · rename_i hin
      obtain ⟨hs, -⟩ := inS_shape hin
      rw [unoff_len]
      have := hs.len
      omega
    · simp

theorem RefValid_is (s ix : List Int) (b : Bool) (hv : decide (Valid s ix) = b) (p q : Option Addr) (c d : Nat) (w : World) (h : Ints w p s) (h' : Ints w q ix) :
    Calls Try.prog 23 #[.slice p s.length c, .slice q ix.length d] w fun e w' => e = .returned (.bool b) ∧ Below w.heap.size w w' :=
  (RefValid_any p q c d s ix w h h').mono fun e w' ⟨he, n, hw⟩ => ⟨by rw [he, hv], hw ▸ below_drewN _ _ _⟩
theorem RefOffset_is (s ix : List Int) (n : Int) (hn : roffS s ix = n) (hs : Shape s) (p q : Option Addr) (c d : Nat) (w : World) (h : Ints w p s) (h' : Ints w q ix) :
    Calls Try.prog 25 #[.slice p s.length c, .slice q ix.length d] w fun e w' => e = .returned (.int .i64 n) ∧ Below w.heap.size w w' :=
  (RefOffset_any p q c d s ix w h h' hs).mono fun e w' ⟨he, n, hw⟩ => ⟨by rw [he, hn], hw ▸ below_drewN _ _ _⟩
theorem RefIn_is (s : List Int) (n : Int) (b : Bool) (hb : inS s n = b) (a : Option Addr) (c : Nat) (w : World) (h : Ints w a s) :
    Calls Try.prog 24 #[.slice a s.length c, .int .i64 n] w fun e w' => e = .returned (.bool b) ∧ w = w' := by
  have := RefIn_any a c s n w h
  rw [hb] at this
  exact this
theorem RefCheck_is (s : List Int) (n : Int) (hn : shapeS s = n) (a : Option Addr) (c : Nat) (w : World) (h : Ints w a s) :
    Calls Try.prog 19 #[.slice a s.length c] w fun e w' => e = .returned (.int .i64 n) ∧ w = w' := by
  have := RefCheck_any a c s w h
  rw [hn] at this
  exact this

set_option maxRecDepth 100000 in
set_option maxHeartbeats 4000000 in
theorem GammaMatches_true_true (a b : Option Addr) (c d : Nat) (s ix : List Int) (n : Int) (w : World) (h : Ints w a s) (h' : Ints w b ix) (hz : shapeS s = 0) (hl : ¬ 100 < ix.length) (hv : Valid s ix) (hI : inS s n = true) :
    Calls Try.prog 3 #[.slice a s.length c, .slice b ix.length d, .int .i64 n] w fun e w' => e = .returned (.bool true) ∧ Below w.heap.size w w' := by
  have hsm := h'.small
  have Hs := Lib.hid (shapeS_zero.1 hz)
  have Hv : Hid (decide (Valid s ix) = true) := by simp [Hid, hv]
  have HI := Lib.hid hI
  obtain ⟨o, ho⟩ : ∃ o, offS s ix = o := ⟨_, rfl⟩
  have Ho := Lib.hid ho
  have Hr := Lib.hid ((roffS_valid hv).trans ho)
  clear ho
  have He : Hid (ixS s n = unoff s n) := by unfold ixS; exact if_pos hI
  clear hv hI
  go_enter Try.func3, Try.ntmps3
  go_wp2_with fail
  refine (awake03 _).mono ?_
  rintro e w' ⟨rfl, hb1⟩
  go_wp2_with fail
  refine (RefCheck_is _ _ hz _ _ _ (h.keep hb1)).mono ?_
  rintro e w' ⟨rfl, rfl⟩
  go_wp2_with fail
  refine (Offset_is s ix o true Ho.out Hv.out hz _ _ _ _ _ (h.keep hb1) (h'.keep hb1)).mono ?_
  rintro e w' ⟨rfl, hb2⟩
  have hb2 := below_t hb1 hb2
  clear hb1
  go_wp2_with fail
  refine (Index_ints s n _ _ _ (h.keep hb2)).mono ?_
  rw [He.out, HI.out]
  rintro e w3 ⟨⟨q, c', rfl, hi⟩, hb3⟩
  have hb3 := below_t hb2 hb3
  clear hb2
  go_wp2_with fail
  refine (Valid_is s ix true Hv.out _ _ _ _ _ (h.keep hb3) (h'.keep hb3)).mono ?_
  rintro e w' ⟨rfl, hb4⟩
  have hi := hi.keep hb4
  have hb4 := below_t hb3 hb4
  clear hb3
  go_wp2_with fail
  refine (RefValid_is s ix true Hv.out _ _ _ _ _ (h.keep hb4) (h'.keep hb4)).mono ?_
  rintro e w' ⟨rfl, hb5⟩
  have hi := hi.keep hb5
  have hb5 := below_t hb4 hb5
  clear hb4
  go_wp2_with fail
  refine (RefValid_is s ix true Hv.out _ _ _ _ _ (h.keep hb5) (h'.keep hb5)).mono ?_
  rintro e w' ⟨rfl, hb6⟩
  have hi := hi.keep hb6
  have hb6 := below_t hb5 hb6
  clear hb5
  go_wp2_with fail
  refine (RefIn_is s n true HI.out _ _ _ (h.keep hb6)).mono ?_
  rintro e w' ⟨rfl, rfl⟩
  go_wp2_with fail
  refine (RefOffset_is s ix o Hr.out Hs.out _ _ _ _ _ (h.keep hb6) (h'.keep hb6)).mono ?_
  rintro e w' ⟨rfl, hb7⟩
  have hi := hi.keep hb7
  have hb6 := below_t hb6 hb7
  clear hb7
  go_wp2_with fail
  refine (RefIndex_is s n HI.out _ _ _ (h.keep hb6)).mono ?_
  rintro e w8 ⟨⟨q', c'', rfl, hi'⟩, hb8⟩
  have hi := hi.keep hb8
  have hb8 := below_t hb6 hb8
  clear hb6
  go_wp2_with fail
  refine (RefEqual_is _ _ true (by simp [eqS]) _ _ _ _ _ hi hi').mono ?_
  rintro e w' ⟨rfl, hb9⟩
  go_wp2_with fail
  go_ret
  exact ⟨rfl, below_t hb8 hb9⟩

set_option maxRecDepth 100000 in
set_option maxHeartbeats 4000000 in
theorem GammaMatches_true_false (a b : Option Addr) (c d : Nat) (s ix : List Int) (n : Int) (w : World) (h : Ints w a s) (h' : Ints w b ix) (hz : shapeS s = 0) (hl : ¬ 100 < ix.length) (hv : Valid s ix) (hI : inS s n = false) :
    Calls Try.prog 3 #[.slice a s.length c, .slice b ix.length d, .int .i64 n] w fun e w' => e = .returned (.bool true) ∧ Below w.heap.size w w' := by
  have hsm := h'.small
  have Hs := Lib.hid (shapeS_zero.1 hz)
  have Hv : Hid (decide (Valid s ix) = true) := by simp [Hid, hv]
  have HI := Lib.hid hI
  obtain ⟨o, ho⟩ : ∃ o, offS s ix = o := ⟨_, rfl⟩
  have Ho := Lib.hid ho
  have Hr := Lib.hid ((roffS_valid hv).trans ho)
  clear ho
  have He : Hid (ixS s n = []) := by unfold ixS; exact if_neg (by simp [hI])
  clear hv hI
  go_enter Try.func3, Try.ntmps3
  go_wp2_with fail
  refine (awake03 _).mono ?_
  rintro e w' ⟨rfl, hb1⟩
  go_wp2_with fail
  refine (RefCheck_is _ _ hz _ _ _ (h.keep hb1)).mono ?_
  rintro e w' ⟨rfl, rfl⟩
  go_wp2_with fail
  refine (Offset_is s ix o true Ho.out Hv.out hz _ _ _ _ _ (h.keep hb1) (h'.keep hb1)).mono ?_
  rintro e w' ⟨rfl, hb2⟩
  have hb2 := below_t hb1 hb2
  clear hb1
  go_wp2_with fail
  refine (Index_ints s n _ _ _ (h.keep hb2)).mono ?_
  rw [He.out, HI.out]
  rintro e w3 ⟨⟨q, c', rfl, hi⟩, hb3⟩
  have hb3 := below_t hb2 hb3
  clear hb2
  go_wp2_with fail
  refine (Valid_is s ix true Hv.out _ _ _ _ _ (h.keep hb3) (h'.keep hb3)).mono ?_
  rintro e w' ⟨rfl, hb4⟩
  have hi := hi.keep hb4
  have hb4 := below_t hb3 hb4
  clear hb3
  go_wp2_with fail
  refine (RefValid_is s ix true Hv.out _ _ _ _ _ (h.keep hb4) (h'.keep hb4)).mono ?_
  rintro e w' ⟨rfl, hb5⟩
  have hi := hi.keep hb5
  have hb5 := below_t hb4 hb5
  clear hb4
  go_wp2_with fail
  refine (RefValid_is s ix true Hv.out _ _ _ _ _ (h.keep hb5) (h'.keep hb5)).mono ?_
  rintro e w' ⟨rfl, hb6⟩
  have hi := hi.keep hb6
  have hb6 := below_t hb5 hb6
  clear hb5
  go_wp2_with fail
  refine (RefIn_is s n false HI.out _ _ _ (h.keep hb6)).mono ?_
  rintro e w' ⟨rfl, rfl⟩
  go_wp2_with fail
  refine (RefOffset_is s ix o Hr.out Hs.out _ _ _ _ _ (h.keep hb6) (h'.keep hb6)).mono ?_
  rintro e w' ⟨rfl, hb7⟩
  have hi := hi.keep hb7
  have hb6 := below_t hb6 hb7
  clear hb7
  go_wp2_with fail
  go_ret
  exact ⟨rfl, hb6⟩

set_option maxRecDepth 100000 in
set_option maxHeartbeats 4000000 in
theorem GammaMatches_false_true (a b : Option Addr) (c d : Nat) (s ix : List Int) (n : Int) (w : World) (h : Ints w a s) (h' : Ints w b ix) (hz : shapeS s = 0) (hl : ¬ 100 < ix.length) (hv : ¬ Valid s ix) (hI : inS s n = true) :
    Calls Try.prog 3 #[.slice a s.length c, .slice b ix.length d, .int .i64 n] w fun e w' => e = .returned (.bool true) ∧ Below w.heap.size w w' := by
  have hsm := h'.small
  have Hs := Lib.hid (shapeS_zero.1 hz)
  have Hv : Hid (decide (Valid s ix) = false) := by simp [Hid, hv]
  have HI := Lib.hid hI
  have Ho : Hid (offS s ix = 0) := if_neg hv
  have He : Hid (ixS s n = unoff s n) := by unfold ixS; exact if_pos hI
  clear hv hI
  go_enter Try.func3, Try.ntmps3
  go_wp2_with fail
  refine (awake03 _).mono ?_
  rintro e w' ⟨rfl, hb1⟩
  go_wp2_with fail
  refine (RefCheck_is _ _ hz _ _ _ (h.keep hb1)).mono ?_
  rintro e w' ⟨rfl, rfl⟩
  go_wp2_with fail
  refine (Offset_is s ix 0 false Ho.out Hv.out hz _ _ _ _ _ (h.keep hb1) (h'.keep hb1)).mono ?_
  rintro e w' ⟨rfl, hb2⟩
  have hb2 := below_t hb1 hb2
  clear hb1
  go_wp2_with fail
  refine (Index_ints s n _ _ _ (h.keep hb2)).mono ?_
  rw [He.out, HI.out]
  rintro e w3 ⟨⟨q, c', rfl, hi⟩, hb3⟩
  have hb3 := below_t hb2 hb3
  clear hb2
  go_wp2_with fail
  refine (Valid_is s ix false Hv.out _ _ _ _ _ (h.keep hb3) (h'.keep hb3)).mono ?_
  rintro e w' ⟨rfl, hb4⟩
  have hi := hi.keep hb4
  have hb4 := below_t hb3 hb4
  clear hb3
  go_wp2_with fail
  refine (RefValid_is s ix false Hv.out _ _ _ _ _ (h.keep hb4) (h'.keep hb4)).mono ?_
  rintro e w' ⟨rfl, hb5⟩
  have hi := hi.keep hb5
  have hb5 := below_t hb4 hb5
  clear hb4
  go_wp2_with fail
  refine (RefValid_is s ix false Hv.out _ _ _ _ _ (h.keep hb5) (h'.keep hb5)).mono ?_
  rintro e w' ⟨rfl, hb6⟩
  have hi := hi.keep hb6
  have hb6 := below_t hb5 hb6
  clear hb5
  go_wp2_with fail
  refine (RefIn_is s n true HI.out _ _ _ (h.keep hb6)).mono ?_
  rintro e w' ⟨rfl, rfl⟩
  go_wp2_with fail
  refine (RefIndex_is s n HI.out _ _ _ (h.keep hb6)).mono ?_
  rintro e w8 ⟨⟨q', c'', rfl, hi'⟩, hb8⟩
  have hi := hi.keep hb8
  have hb8 := below_t hb6 hb8
  clear hb6
  go_wp2_with fail
  refine (RefEqual_is _ _ true (by simp [eqS]) _ _ _ _ _ hi hi').mono ?_
  rintro e w' ⟨rfl, hb9⟩
  go_wp2_with fail
  go_ret
  exact ⟨rfl, below_t hb8 hb9⟩

set_option maxRecDepth 100000 in
set_option maxHeartbeats 4000000 in
theorem GammaMatches_false_false (a b : Option Addr) (c d : Nat) (s ix : List Int) (n : Int) (w : World) (h : Ints w a s) (h' : Ints w b ix) (hz : shapeS s = 0) (hl : ¬ 100 < ix.length) (hv : ¬ Valid s ix) (hI : inS s n = false) :
    Calls Try.prog 3 #[.slice a s.length c, .slice b ix.length d, .int .i64 n] w fun e w' => e = .returned (.bool true) ∧ Below w.heap.size w w' := by
  have hsm := h'.small
  have Hs := Lib.hid (shapeS_zero.1 hz)
  have Hv : Hid (decide (Valid s ix) = false) := by simp [Hid, hv]
  have HI := Lib.hid hI
  have Ho : Hid (offS s ix = 0) := if_neg hv
  have He : Hid (ixS s n = []) := by unfold ixS; exact if_neg (by simp [hI])
  clear hv hI
  go_enter Try.func3, Try.ntmps3
  go_wp2_with fail
  refine (awake03 _).mono ?_
  rintro e w' ⟨rfl, hb1⟩
  go_wp2_with fail
  refine (RefCheck_is _ _ hz _ _ _ (h.keep hb1)).mono ?_
  rintro e w' ⟨rfl, rfl⟩
  go_wp2_with fail
  refine (Offset_is s ix 0 false Ho.out Hv.out hz _ _ _ _ _ (h.keep hb1) (h'.keep hb1)).mono ?_
  rintro e w' ⟨rfl, hb2⟩
  have hb2 := below_t hb1 hb2
  clear hb1
  go_wp2_with fail
  refine (Index_ints s n _ _ _ (h.keep hb2)).mono ?_
  rw [He.out, HI.out]
  rintro e w3 ⟨⟨q, c', rfl, hi⟩, hb3⟩
  have hb3 := below_t hb2 hb3
  clear hb2
  go_wp2_with fail
  refine (Valid_is s ix false Hv.out _ _ _ _ _ (h.keep hb3) (h'.keep hb3)).mono ?_
  rintro e w' ⟨rfl, hb4⟩
  have hi := hi.keep hb4
  have hb4 := below_t hb3 hb4
  clear hb3
  go_wp2_with fail
  refine (RefValid_is s ix false Hv.out _ _ _ _ _ (h.keep hb4) (h'.keep hb4)).mono ?_
  rintro e w' ⟨rfl, hb5⟩
  have hi := hi.keep hb5
  have hb5 := below_t hb4 hb5
  clear hb4
  go_wp2_with fail
  refine (RefValid_is s ix false Hv.out _ _ _ _ _ (h.keep hb5) (h'.keep hb5)).mono ?_
  rintro e w' ⟨rfl, hb6⟩
  have hi := hi.keep hb6
  have hb6 := below_t hb5 hb6
  clear hb5
  go_wp2_with fail
  refine (RefIn_is s n false HI.out _ _ _ (h.keep hb6)).mono ?_
  rintro e w' ⟨rfl, rfl⟩
  go_wp2_with fail
  go_ret
  exact ⟨rfl, hb6⟩

set_option maxRecDepth 100000 in
set_option maxHeartbeats 1000000 in
theorem GammaMatchesReference_law (a b : Option Addr) (c d : Nat) (s ix : List Int) (n : Int) (w : World) (h : Ints w a s) (h' : Ints w b ix) (hn : I64 n) :
    Calls Try.prog 3 #[.slice a s.length c, .slice b ix.length d, .int .i64 n] w fun e w' => e = .returned (.bool true) ∧ Below w.heap.size w w' := by
  have hsm := h'.small
  by_cases hz : shapeS s = 0
  · by_cases hl : 100 < ix.length
    · go_enter Try.func3, Try.ntmps3
      go_wp2_with fail
      refine (awake03 _).mono ?_
      rintro e w' ⟨rfl, hb1⟩
      go_wp2_with fail
      refine (RefCheck_is _ _ hz _ _ _ (h.keep hb1)).mono ?_
      rintro e w' ⟨rfl, rfl⟩
      go_wp2_with fail
      refine (awake03 _).mono ?_
      rintro e w' ⟨rfl, hb2⟩
      go_wp2_with fail
      go_ret
      exact ⟨rfl, below_t hb1 hb2⟩
    · by_cases hv : Valid s ix
      · cases hI : inS s n with
        | true => exact GammaMatches_true_true a b c d s ix n w h h' hz hl hv hI
        | false => exact GammaMatches_true_false a b c d s ix n w h h' hz hl hv hI
      · cases hI : inS s n with
        | true => exact GammaMatches_false_true a b c d s ix n w h h' hz hl hv hI
        | false => exact GammaMatches_false_false a b c d s ix n w h h' hz hl hv hI
  · have hzb : (shapeS s != 0) = true := by simp [hz]
    go_enter Try.func3, Try.ntmps3
    go_wp2_with fail
    refine (awake03 _).mono ?_
    rintro e w' ⟨rfl, hb1⟩
    go_wp2_with fail
    refine (RefCheck_any _ _ _ _ (h.keep hb1)).mono ?_
    rintro e w' ⟨rfl, rfl⟩
    go_wp2_with fail
    refine (awake03 _).mono ?_
    rintro e w' ⟨rfl, hb2⟩
    go_wp2_with fail
    go_ret
    exact ⟨rfl, below_t hb1 hb2⟩
end Go.Proofs.Ythkfjdhakbjllaa
