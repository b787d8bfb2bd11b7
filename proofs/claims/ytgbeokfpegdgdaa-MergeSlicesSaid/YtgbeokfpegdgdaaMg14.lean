/- The fixed results of layer 22 (merge): awake, walked. No condition. -/
import Derived.Test.YtgbeokfpegdgdaaMg13
namespace Go.Proofs.Ytgbeokfpegdgdaa
open Go.RowKit Go.Shelf
set_option linter.unusedVariables false
set_option linter.unusedSimpArgs false

/-- a fill from x to y -/
def pw (b1 b2 : Nat) (x y : Int) : PV := ⟨some ⟨b1, 0, none⟩, 1, [x], some ⟨b2, 0, none⟩, 1, [y], 1, 0, 0, none, 0, [], 0, 0, 0⟩
theorem pw_acc (a b c d : Nat) (x y u v : Int) : OneAcc (pw a b x y) (pw c d u v) := ⟨rfl, rfl, rfl, rfl, rfl, rfl, rfl⟩
theorem pw_small (a b : Nat) (x y : Int) (hx : I64 x) (hy : I64 y) : PVS (pw a b x y) :=
  ⟨fun u hu => by obtain rfl := List.mem_singleton.1 hu; exact hx, fun u hu => by obtain rfl := List.mem_singleton.1 hu; exact hy, fun u hu => by simp [pw] at hu, by simp [pw], by simp [pw], by simp [pw]⟩
theorem fits22 (a b c d : Nat) : Fits (pw a b 0 2) (pw c d 2 5) :=
  ⟨pw_acc _ _ _ _ _ _ _ _, rfl, rfl, rfl, by simp only [pw]; decide, pw_small _ _ _ _ (by unfold I64; omega) (by unfold I64; omega), pw_small _ _ _ _ (by unfold I64; omega) (by unfold I64; omega)⟩
theorem linked22 (a b c d : Nat) : Linked [pw a b 0 2, pw c d 2 5] := by
  intro j x u v z h0 hu hv hg
  have hx : pw a b 0 2 = x := by simpa using h0
  subst hx
  match j, hu, hv with
  | 0, hu, hv =>
    have e1 : pw a b 0 2 = u := by simpa using hu
    have e2 : pw c d 2 5 = v := by simpa using hv
    subst e1 e2
    obtain ⟨h1, h2, h3⟩ := hg
    have h4 := h3.s
    have k := fits22 a b c d
    exact ⟨⟨h3.k ▸ rfl, h3.b ▸ rfl, h3.e ▸ rfl, h3.s ▸ rfl, h3.st ▸ rfl, h3.sp ▸ rfl, h3.md ▸ rfl⟩, by rw [h1, h2]; exact k.hl1, by rw [h1]; exact k.hl2, by rw [h1]; exact k.hl3, by rw [h1, h2]; exact k.ax,
      ⟨by rw [h1]; exact k.sx.lo, by rw [h2]; exact k.sx.hi, by rw [h4]; exact k.sx.s, by rw [h1]; exact k.sx.ll, by rw [h2]; exact k.sx.lh, by rw [h4]; exact k.sx.ls⟩, k.sy⟩
theorem i64_one (x : Int) (hx : I64 x) : ∀ u ∈ [x], I64 u := fun u hu => by obtain rfl := List.mem_singleton.1 hu; exact hx

theorem start22 (w : World) : ∃ W, (((((((w.alloc (.cells #[.int .i64 1, .int .i64 0, .int .i64 0, .slice none 0 0, .int .i64 0, .int .i64 0, .int .i64 0] 34)).alloc (.cells #[.int .i64 0] 3)).alloc (.cells #[.int .i64 2] 3)).alloc
      (.cells #[.slice (some ⟨w.heap.size + 1, 0, none⟩) 1 1, .slice (some ⟨w.heap.size + 1 + 1, 0, none⟩) 1 1, .int .i64 1, .int .i64 0, .int .i64 0, .slice none 0 0, .int .i64 0, .int .i64 0, .int .i64 0] 36)).alloc (.cells #[.int .i64 2] 3)).alloc (.cells #[.int .i64 5] 3)).alloc
      (.cells #[.slice (some ⟨w.heap.size + 1 + 1 + 1 + 1, 0, none⟩) 1 1, .slice (some ⟨w.heap.size + 1 + 1 + 1 + 1 + 1, 0, none⟩) 1 1, .int .i64 1, .int .i64 0, .int .i64 0, .slice none 0 0, .int .i64 0, .int .i64 0, .int .i64 0] 36)) = W ∧ Below w.heap.size w W ∧
    At9 W (w.heap.size + 1 + 1 + 1) (pw (w.heap.size + 1) (w.heap.size + 1 + 1) 0 2) ∧ At9 W (w.heap.size + 1 + 1 + 1 + 1 + 1 + 1) (pw (w.heap.size + 1 + 1 + 1 + 1) (w.heap.size + 1 + 1 + 1 + 1 + 1) 2 5) ∧
    PVI W (pw (w.heap.size + 1) (w.heap.size + 1 + 1) 0 2) ∧ PVI W (pw (w.heap.size + 1 + 1 + 1 + 1) (w.heap.size + 1 + 1 + 1 + 1 + 1) 2 5) := by
  obtain ⟨w1, h1⟩ : ∃ w1, w.alloc (.cells #[.int .i64 1, .int .i64 0, .int .i64 0, .slice none 0 0, .int .i64 0, .int .i64 0, .int .i64 0] 34) = w1 := ⟨_, rfl⟩
  have b1 : Below w.heap.size w w1 := h1 ▸ below_alloc _ _
  have z1 : w1.heap.size = w.heap.size + 1 := by rw [← h1]; simp
  rw [h1]
  obtain ⟨w2, h2⟩ : ∃ w2, w1.alloc (.cells #[.int .i64 0] 3) = w2 := ⟨_, rfl⟩
  have b2 : Below w1.heap.size w1 w2 := h2 ▸ below_alloc _ _
  have z2 : w2.heap.size = w.heap.size + 1 + 1 := by rw [← h2]; simp [z1]
  have i1 : Ints w2 (some ⟨w.heap.size + 1, 0, none⟩) [0] := h2 ▸ Ints.lit w1 _ [0] _ z1.symm (i64_one _ (by unfold I64; omega)) (by simp)
  rw [h2]
  obtain ⟨w3, h3⟩ : ∃ w3, w2.alloc (.cells #[.int .i64 2] 3) = w3 := ⟨_, rfl⟩
  have b3 : Below w2.heap.size w2 w3 := h3 ▸ below_alloc _ _
  have z3 : w3.heap.size = w.heap.size + 1 + 1 + 1 := by rw [← h3]; simp [z2]
  have i2 : Ints w3 (some ⟨w.heap.size + 1 + 1, 0, none⟩) [2] := h3 ▸ Ints.lit w2 _ [2] _ z2.symm (i64_one _ (by unfold I64; omega)) (by simp)
  rw [h3]
  obtain ⟨w4, h4⟩ : ∃ w4, w3.alloc (.cells #[.slice (some ⟨w.heap.size + 1, 0, none⟩) 1 1, .slice (some ⟨w.heap.size + 1 + 1, 0, none⟩) 1 1, .int .i64 1, .int .i64 0, .int .i64 0, .slice none 0 0, .int .i64 0, .int .i64 0, .int .i64 0] 36) = w4 := ⟨_, rfl⟩
  have b4 : Below w3.heap.size w3 w4 := h4 ▸ below_alloc _ _
  have z4 : w4.heap.size = w.heap.size + 1 + 1 + 1 + 1 := by rw [← h4]; simp [z3]
  have A : At9 w4 (w.heap.size + 1 + 1 + 1) (pw (w.heap.size + 1) (w.heap.size + 1 + 1) 0 2) := h4 ▸ At9.new w3 _ (pw (w.heap.size + 1) (w.heap.size + 1 + 1) 0 2) _ z3.symm
  rw [h4]
  obtain ⟨w5, h5⟩ : ∃ w5, w4.alloc (.cells #[.int .i64 2] 3) = w5 := ⟨_, rfl⟩
  have b5 : Below w4.heap.size w4 w5 := h5 ▸ below_alloc _ _
  have z5 : w5.heap.size = w.heap.size + 1 + 1 + 1 + 1 + 1 := by rw [← h5]; simp [z4]
  have i5 : Ints w5 (some ⟨w.heap.size + 1 + 1 + 1 + 1, 0, none⟩) [2] := h5 ▸ Ints.lit w4 _ [2] _ z4.symm (i64_one _ (by unfold I64; omega)) (by simp)
  rw [h5]
  obtain ⟨w6, h6⟩ : ∃ w6, w5.alloc (.cells #[.int .i64 5] 3) = w6 := ⟨_, rfl⟩
  have b6 : Below w5.heap.size w5 w6 := h6 ▸ below_alloc _ _
  have z6 : w6.heap.size = w.heap.size + 1 + 1 + 1 + 1 + 1 + 1 := by rw [← h6]; simp [z5]
  have i6 : Ints w6 (some ⟨w.heap.size + 1 + 1 + 1 + 1 + 1, 0, none⟩) [5] := h6 ▸ Ints.lit w5 _ [5] _ z5.symm (i64_one _ (by unfold I64; omega)) (by simp)
  rw [h6]
  have b7 := below_alloc w6 (.cells #[.slice (some ⟨w.heap.size + 1 + 1 + 1 + 1, 0, none⟩) 1 1, .slice (some ⟨w.heap.size + 1 + 1 + 1 + 1 + 1, 0, none⟩) 1 1, .int .i64 1, .int .i64 0, .int .i64 0, .slice none 0 0, .int .i64 0, .int .i64 0, .int .i64 0] 36)
  have b67 := below_t b6 b7
  have b57 := below_t b5 b67
  have b47 := below_t b4 b57
  have b37 := below_t b3 b47
  exact ⟨_, rfl, below_t b1 (below_t b2 b37), A.keep b57, At9.new w6 _ (pw (w.heap.size + 1 + 1 + 1 + 1) (w.heap.size + 1 + 1 + 1 + 1 + 1) 2 5) _ z6.symm, ⟨i1.keep b37, i2.keep b47, Ints.nil _⟩, ⟨i5.keep b67, i6.keep b7, Ints.nil _⟩⟩

set_option maxRecDepth 100000 in
set_option maxHeartbeats 1000000 in
theorem awake22 (w : World) : Calls Try.prog 4 #[] w fun e w' => e = .returned (.bool true) ∧ Below w.heap.size w w' := by
  obtain ⟨W, hW, hb, A, B, iP, iQ⟩ := start22 w
  have HW := Lib.hid hW
  clear hW
  go_enter Try.func4, Try.ntmps4
  go_wp2_with fail
  rw [HW.out]
  clear HW
  generalize w.heap.size + 1 + 1 + 1 + 1 + 1 + 1 = gQ at B ⊢
  generalize w.heap.size + 1 + 1 + 1 + 1 + 1 = g5 at B iQ ⊢
  generalize w.heap.size + 1 + 1 + 1 + 1 = g4 at B iQ ⊢
  generalize w.heap.size + 1 + 1 + 1 = gP at A ⊢
  generalize w.heap.size + 1 + 1 = g2 at A iP ⊢
  generalize w.heap.size + 1 = g1 at A iP ⊢
  refine (Join_fits (pw g1 g2 0 2) (pw g4 g5 2 5) (fits22 _ _ _ _) W iP iQ).mono ?_
  rintro e1 w1 ⟨⟨z, rfl, hz, hgl⟩, hb1⟩
  have A := A.keep hb1
  have B := B.keep hb1
  have iP := iP.keep hb1
  have iQ := iQ.keep hb1
  have hb := below_t hb hb1
  clear hb1
  have J := At9.new w1 w1.heap.size z 36 rfl
  have ba := below_alloc w1 (.cells #[.slice z.p z.lo.length z.c, .slice z.q z.hi.length z.f, .int .i64 z.k, .int .i64 z.b, .int .i64 z.e, .slice z.g z.s.length z.d, .int .i64 z.st, .int .i64 z.sp, .int .i64 z.md] 36)
  have iz : Hid (Ints w1 z.q z.hi) := by
    have h1 := hz.hi
    exact h1.ints (by rw [hgl.hi]; exact i64_one _ (by unfold I64; omega)) (by rw [hgl.hi]; simp [pw])
  have hze : Hid (eqS z.hi [5] = true) := by rw [Hid, hgl.hi]; rfl
  have A := A.keep ba
  have B := B.keep ba
  have iP := iP.keep ba
  have iQ := iQ.keep ba
  have hb := below_t hb ba
  clear ba
  have hA0 := A.c0
  have hA1 := A.c1
  have hA2 := A.c2
  have hA3 := A.c3
  have hA4 := A.c4
  have hA5 := A.c5
  have hA6 := A.c6
  have hA7 := A.c7
  have hA8 := A.c8
  have hB0 := B.c0
  have hB1 := B.c1
  have hB2 := B.c2
  have hB3 := B.c3
  have hB4 := B.c4
  have hB5 := B.c5
  have hB6 := B.c6
  have hB7 := B.c7
  have hB8 := B.c8
  go_wp2_with fail
  refine (Join_no (pw g4 g5 2 5) (pw g1 g2 0 2) (-1) (by simp only [pw]; decide) (by omega) (pw_acc _ _ _ _ _ _ _ _) rfl rfl rfl _ iQ iP).mono ?_
  rintro e2 w2 ⟨rfl, hb2⟩
  clear hA0
  clear hA1
  clear hA2
  clear hA3
  clear hA4
  clear hA5
  clear hA6
  clear hA7
  clear hA8
  clear hB0
  clear hB1
  clear hB2
  clear hB3
  clear hB4
  clear hB5
  clear hB6
  clear hB7
  clear hB8
  have JZ := Lib.hid (below_t (below_alloc w1 (.cells #[.slice z.p z.lo.length z.c, .slice z.q z.hi.length z.f, .int .i64 z.k, .int .i64 z.b, .int .i64 z.e, .slice z.g z.s.length z.d, .int .i64 z.st, .int .i64 z.sp, .int .i64 z.md] 36)) hb2)
  have A := A.keep hb2
  have B := B.keep hb2
  have iP := iP.keep hb2
  have iQ := iQ.keep hb2
  have J := J.keep hb2
  have hb := below_t hb hb2
  clear hb2
  have bb := below_alloc w2 (.cells #[.slice none 0 0, .slice none 0 0, .int .i64 0, .int .i64 0, .int .i64 0, .slice none 0 0, .int .i64 0, .int .i64 0, .int .i64 0] 36)
  have JZ := Lib.hid (below_t JZ.out bb)
  have A := A.keep bb
  have B := B.keep bb
  have iP := iP.keep bb
  have iQ := iQ.keep bb
  have J := J.keep bb
  have hb := below_t hb bb
  clear bb
  have hA0 := A.c0
  have hA1 := A.c1
  have hA2 := A.c2
  have hA3 := A.c3
  have hA4 := A.c4
  have hA5 := A.c5
  have hA6 := A.c6
  have hA7 := A.c7
  have hA8 := A.c8
  have hB0 := B.c0
  have hB1 := B.c1
  have hB2 := B.c2
  have hB3 := B.c3
  have hB4 := B.c4
  have hB5 := B.c5
  have hB6 := B.c6
  have hB7 := B.c7
  have hB8 := B.c8
  go_wp2_with fail
  have bc := below_alloc (w2.alloc (.cells #[.slice none 0 0, .slice none 0 0, .int .i64 0, .int .i64 0, .int .i64 0, .slice none 0 0, .int .i64 0, .int .i64 0, .int .i64 0] 36)) (.cells (flatP [pw g1 g2 0 2, pw g4 g5 2 5]).toArray 36)
  refine (Merge_any [pw g1 g2 0 2, pw g4 g5 2 5] (linked22 _ _ _ _) (by simp) (by simp) (w2.heap.size + 1) 2 _ (Own.made _ _ (flatP [pw g1 g2 0 2, pw g4 g5 2 5]) _ (by simp)) (fun x hx => ?_)).mono ?_
  · rcases List.mem_cons.1 hx with rfl | hx
    · exact ⟨iP.keep bc, pw_small _ _ _ _ (by unfold I64; omega) (by unfold I64; omega)⟩
    · obtain rfl := List.mem_singleton.1 hx
      exact ⟨iQ.keep bc, pw_small _ _ _ _ (by unfold I64; omega) (by unfold I64; omega)⟩
  rintro e3 w3 ⟨⟨gm, cm, zm, am, um, rfl, -, -, -, -, -⟩, hb3⟩
  clear hA0
  clear hA1
  clear hA2
  clear hA3
  clear hA4
  clear hA5
  clear hA6
  clear hA7
  clear hA8
  clear hB0
  clear hB1
  clear hB2
  clear hB3
  clear hB4
  clear hB5
  clear hB6
  clear hB7
  clear hB8
  have hb3 := below_t bc hb3
  clear bc
  have JZ3 := Lib.hid (below_t JZ.out hb3)
  have A := A.keep hb3
  have B := B.keep hb3
  have iP := iP.keep hb3
  have iQ := iQ.keep hb3
  have J := J.keep hb3
  have hb := below_t hb hb3
  clear hb3
  have hJ1 := J.c1
  have bd := below_alloc w3 (.cells #[.int .i64 5] 3)
  have iz3 := iz.out.keep (below_t JZ3.out bd)
  have i5 := Ints.lit w3 _ [5] 3 rfl (i64_one 5 (by unfold I64; omega)) (by simp)
  have HB3 := Lib.hid bd
  clear bd
  go_wp2_with fail
  refine (RefEqual_is z.hi [5] true hze.out _ _ _ _ _ iz3 i5).mono ?_
  rintro e4 w4 ⟨rfl, hb4⟩
  have hb4 := below_t HB3.out hb4
  clear hJ1 iz3 i5 HB3
  have A := A.keep hb4
  have B := B.keep hb4
  have iP := iP.keep hb4
  have iQ := iQ.keep hb4
  have hb := below_t hb hb4
  clear hb4
  have hA0 := A.c0
  have hA1 := A.c1
  have hA2 := A.c2
  have hA3 := A.c3
  have hA4 := A.c4
  have hA5 := A.c5
  have hA6 := A.c6
  have hA7 := A.c7
  have hA8 := A.c8
  have hB0 := B.c0
  have hB1 := B.c1
  have hB2 := B.c2
  have hB3 := B.c3
  have hB4 := B.c4
  have hB5 := B.c5
  have hB6 := B.c6
  have hB7 := B.c7
  have hB8 := B.c8
  go_wp2_with fail
  refine (Axis_is (pw g1 g2 0 2) (pw g4 g5 2 5) 0 (by simp only [pw]; decide) (pw_acc _ _ _ _ _ _ _ _) rfl rfl rfl _ iP iQ).mono ?_
  rintro e5 w5 ⟨rfl, hb5⟩
  clear hA0
  clear hA1
  clear hA2
  clear hA3
  clear hA4
  clear hA5
  clear hA6
  clear hA7
  clear hA8
  clear hB0
  clear hB1
  clear hB2
  clear hB3
  clear hB4
  clear hB5
  clear hB6
  clear hB7
  clear hB8
  have A := A.keep hb5
  have B := B.keep hb5
  have iP := iP.keep hb5
  have iQ := iQ.keep hb5
  have hb := below_t hb hb5
  clear hb5
  have hA0 := A.c0
  have hA1 := A.c1
  have hA2 := A.c2
  have hA3 := A.c3
  have hA4 := A.c4
  have hA5 := A.c5
  have hA6 := A.c6
  have hA7 := A.c7
  have hA8 := A.c8
  have hB0 := B.c0
  have hB1 := B.c1
  have hB2 := B.c2
  have hB3 := B.c3
  have hB4 := B.c4
  have hB5 := B.c5
  have hB6 := B.c6
  have hB7 := B.c7
  have hB8 := B.c8
  go_wp2_with fail
  refine (Axis_is (pw g4 g5 2 5) (pw g1 g2 0 2) (-1) (by simp only [pw]; decide) (pw_acc _ _ _ _ _ _ _ _) rfl rfl rfl _ iQ iP).mono ?_
  rintro e6 w6 ⟨rfl, hb6⟩
  clear hA0
  clear hA1
  clear hA2
  clear hA3
  clear hA4
  clear hA5
  clear hA6
  clear hA7
  clear hA8
  clear hB0
  clear hB1
  clear hB2
  clear hB3
  clear hB4
  clear hB5
  clear hB6
  clear hB7
  clear hB8
  have hb := below_t hb hb6
  clear A B iP iQ hb6
  go_wp2_with fail
  go_ret
  exact ⟨rfl, hb⟩
end Go.Proofs.Ytgbeokfpegdgdaa
