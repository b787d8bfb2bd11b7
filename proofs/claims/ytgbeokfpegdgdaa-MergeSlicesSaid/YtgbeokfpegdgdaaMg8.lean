/- Two pieces as one: merge.Join. No condition beyond what each says. -/
import Derived.Test.YtgbeokfpegdgdaaMg7
namespace Go.Proofs.Ytgbeokfpegdgdaa
open Go.RowKit Go.Shelf
set_option linter.unusedVariables false
set_option linter.unusedSimpArgs false

/-- a fact that stores from block n on leave as it is -/
def KeepsS (n : Nat) (S : World → Prop) : Prop := ∀ (z : World) (g i : Nat) (v : Value), n ≤ g → S z → S (z.setCell ⟨g, i, none⟩ v)
/-- a fact that does not hang on what a new block from n on holds -/
def KeepsA (n : Nat) (S : World → Prop) : Prop := ∀ (z : World) (o o' : Obj), n ≤ z.heap.size → S (z.alloc o) → S (z.alloc o')
theorem KeepsS.and {n : Nat} {S T : World → Prop} (h : KeepsS n S) (k : KeepsS n T) : KeepsS n fun w => S w ∧ T w := fun z g i v hg ⟨a, b⟩ => ⟨h z g i v hg a, k z g i v hg b⟩
theorem KeepsA.and {n : Nat} {S T : World → Prop} (h : KeepsA n S) (k : KeepsA n T) : KeepsA n fun w => S w ∧ T w := fun z o o' hg ⟨a, b⟩ => ⟨h z o o' hg a, k z o o' hg b⟩
theorem keepsS_cell {n b : Nat} (o : Nat) (u : Value) (hb : b < n) : KeepsS n fun w => b < w.heap.size ∧ w.cell? ⟨b, o, none⟩ = some u := by
  rintro z g i v hg ⟨h1, h2⟩
  exact ⟨by simpa using h1, by rw [World.cell?_setCell_far _ _ _ _ (by show g ≠ b; omega)]; exact h2⟩
theorem keepsA_cell {n b : Nat} (o : Nat) (u : Value) (hb : b < n) : KeepsA n fun w => b < w.heap.size ∧ w.cell? ⟨b, o, none⟩ = some u := by
  rintro z p p' hg ⟨h1, h2⟩
  have hf : ∀ p, (z.alloc p).cell? ⟨b, o, none⟩ = z.cell? ⟨b, o, none⟩ := fun p => (below_alloc z p).cell (p := ⟨b, o, none⟩) (by show b < _; omega)
  exact ⟨by simp; omega, (hf p').trans ((hf p).symm.trans h2)⟩
theorem keepsS_below {n : Nat} {w0 : World} (h : w0.heap.size ≤ n) : KeepsS n fun w => Below w0.heap.size w0 w := fun z g i v hg hb => below_set hb (by omega) i v
theorem keepsA_below {n : Nat} {w0 : World} (h : w0.heap.size ≤ n) : KeepsA n fun w => Below w0.heap.size w0 w := fun z o o' hg h4 =>
  below_t (⟨h4.os, h4.tape, h4.output, by omega, fun k hk => ((below_alloc z o).block k (by omega)).symm.trans (h4.block k hk)⟩ : Below w0.heap.size w0 z) (below_alloc z o')
theorem KeepsS.nine {n : Nat} {S : World → Prop} (h : KeepsS n S) (z : World) (g : Nat) (x : PV) (hg : n ≤ g) (hs : S z) : S (set9 z g x) :=
  h _ _ _ _ hg (h _ _ _ _ hg (h _ _ _ _ hg (h _ _ _ _ hg (h _ _ _ _ hg (h _ _ _ _ hg (h _ _ _ _ hg (h _ _ _ _ hg (h _ _ _ _ hg hs))))))))

/-- a piece with rows of its own for the box, and the strides of another -/
def mid (x y : PV) (p : Option Addr) (c : Nat) (q : Option Addr) (f : Nat) : PV := ⟨p, c, x.lo, q, f, y.hi, x.k, x.b, x.e, x.g, x.d, x.s, x.st, x.sp, x.md⟩
/-- under way in merge.Join -/
structure JoinSt (w : World) (x y : PV) (p : Option Addr) (c : Nat) (q : Option Addr) (f : Nat) (g : Nat) (z : World) : Prop where
  own : Own z g 36 [.slice p x.lo.length c, .slice q y.hi.length f, .int .i64 x.k, .int .i64 x.b, .int .i64 x.e, .slice x.g x.s.length x.d, .int .i64 x.st, .int .i64 x.sp, .int .i64 x.md]
  res : Own z (w.heap.size + 2) 36 [.slice none 0 0, .slice none 0 0, .int .i64 0, .int .i64 0, .int .i64 0, .slice none 0 0, .int .i64 0, .int .i64 0, .int .i64 0]
  a : Own z w.heap.size 36 [.slice x.p x.lo.length x.c, .slice x.q x.hi.length x.f, .int .i64 x.k, .int .i64 x.b, .int .i64 x.e, .slice x.g x.s.length x.d, .int .i64 x.st, .int .i64 x.sp, .int .i64 x.md]
  lo : New w.heap.size z p 3 (x.lo.map (.int .i64))
  hi : New w.heap.size z q 3 (y.hi.map (.int .i64))
  below : Below w.heap.size w z
  lt : w.heap.size + 3 ≤ g
theorem join_set {w W z : World} {x y : PV} {g : Nat} {us : List Value} {p q : Option Addr} {c f : Nat} (hW : w.heap.size + 3 ≤ W.heap.size) (hbW : Below w.heap.size w W) (hr : Own W (w.heap.size + 2) 36 [.slice none 0 0, .slice none 0 0, .int .i64 0, .int .i64 0, .int .i64 0, .slice none 0 0, .int .i64 0, .int .i64 0, .int .i64 0]) (ha : Own W w.heap.size 36 [.slice x.p x.lo.length x.c, .slice x.q x.hi.length x.f, .int .i64 x.k, .int .i64 x.b, .int .i64 x.e, .slice x.g x.s.length x.d, .int .i64 x.st, .int .i64 x.sp, .int .i64 x.md])
    (hx : Below W.heap.size W z) (hg : W.heap.size ≤ g) (ho : Own z g 36 us) (hl : us.length = 9) (h1 : New W.heap.size z p 3 (x.lo.map (.int .i64))) (h2 : New W.heap.size z q 3 (y.hi.map (.int .i64))) :
    JoinSt w x y p c q f g (set9 z g (mid x y p c q f)) := by
  refine ⟨set9_own (x := mid x y p c q f) ho hl, set9_other (hr.keep hx hr.lt) (by omega), set9_other (ha.keep hx ha.lt) (by omega), (set9_new h1 ho (by decide)).mono (by omega), (set9_new h2 ho (by decide)).mono (by omega), set9_below (below_t hbW hx) (by omega), by omega⟩
theorem join_lit {w W z : World} {x y : PV} {p q : Option Addr} {c f : Nat} (hW : w.heap.size + 3 ≤ W.heap.size) (hbW : Below w.heap.size w W) (hr : Own W (w.heap.size + 2) 36 [.slice none 0 0, .slice none 0 0, .int .i64 0, .int .i64 0, .int .i64 0, .slice none 0 0, .int .i64 0, .int .i64 0, .int .i64 0]) (ha : Own W w.heap.size 36 [.slice x.p x.lo.length x.c, .slice x.q x.hi.length x.f, .int .i64 x.k, .int .i64 x.b, .int .i64 x.e, .slice x.g x.s.length x.d, .int .i64 x.st, .int .i64 x.sp, .int .i64 x.md])
    (hx : Below W.heap.size W z) (h1 : New W.heap.size z p 3 (x.lo.map (.int .i64))) (h2 : New W.heap.size z q 3 (y.hi.map (.int .i64))) :
    JoinSt w x y p c q f z.heap.size (z.alloc (.cells #[.slice p x.lo.length c, .slice q y.hi.length f, .int .i64 x.k, .int .i64 x.b, .int .i64 x.e, .slice x.g x.s.length x.d, .int .i64 x.st, .int .i64 x.sp, .int .i64 x.md] 36)) := by
  have hba := below_alloc z (.cells #[.slice p x.lo.length c, .slice q y.hi.length f, .int .i64 x.k, .int .i64 x.b, .int .i64 x.e, .slice x.g x.s.length x.d, .int .i64 x.st, .int .i64 x.sp, .int .i64 x.md] 36)
  have hz := hx.size
  exact ⟨Own.made z _ [_, _, _, _, _, _, _, _, _] _ rfl, (hr.keep hx hr.lt).keep hba (by omega), (ha.keep hx ha.lt).keep hba (by omega), (h1.keep' hba).mono (by omega), (h2.keep' hba).mono (by omega), below_t hbW (below_t hx hba), by omega⟩
theorem join_L1 {W w1 w2 : World} (hb1 : Below (W.alloc (.cells #[.slice none 0 0, .slice none 0 0, .int .i64 0, .int .i64 0, .int .i64 0, .slice none 0 0, .int .i64 0, .int .i64 0, .int .i64 0] 36)).drew.heap.size (W.alloc (.cells #[.slice none 0 0, .slice none 0 0, .int .i64 0, .int .i64 0, .int .i64 0, .slice none 0 0, .int .i64 0, .int .i64 0, .int .i64 0] 36)).drew w1) (hb2 : Below w1.heap.size w1 w2) : Own w2 W.heap.size 36 [.slice none 0 0, .slice none 0 0, .int .i64 0, .int .i64 0, .int .i64 0, .slice none 0 0, .int .i64 0, .int .i64 0, .int .i64 0] ∧ Below W.heap.size W w2 := by
  have h0 : Own (W.alloc (.cells #[.slice none 0 0, .slice none 0 0, .int .i64 0, .int .i64 0, .int .i64 0, .slice none 0 0, .int .i64 0, .int .i64 0, .int .i64 0] 36)).drew W.heap.size 36 [.slice none 0 0, .slice none 0 0, .int .i64 0, .int .i64 0, .int .i64 0, .slice none 0 0, .int .i64 0, .int .i64 0, .int .i64 0] := Own.made W _ [.slice none 0 0, .slice none 0 0, .int .i64 0, .int .i64 0, .int .i64 0, .slice none 0 0, .int .i64 0, .int .i64 0, .int .i64 0] 36 rfl
  have h1 := h0.keep hb1 h0.lt
  exact ⟨h1.keep hb2 h1.lt, below_t ((below_alloc W _).drew) (below_t hb1 hb2)⟩
theorem join_L2 {W w1 w2 : World} (hb1 : Below W.drew.heap.size W.drew w1) (hb2 : Below (w1.alloc (.cells #[.slice none 0 0, .slice none 0 0, .int .i64 0, .int .i64 0, .int .i64 0, .slice none 0 0, .int .i64 0, .int .i64 0, .int .i64 0] 36)).heap.size (w1.alloc (.cells #[.slice none 0 0, .slice none 0 0, .int .i64 0, .int .i64 0, .int .i64 0, .slice none 0 0, .int .i64 0, .int .i64 0, .int .i64 0] 36)) w2) : Own w2 w1.heap.size 36 [.slice none 0 0, .slice none 0 0, .int .i64 0, .int .i64 0, .int .i64 0, .slice none 0 0, .int .i64 0, .int .i64 0, .int .i64 0] ∧ Below W.heap.size W w2 ∧ W.heap.size ≤ w1.heap.size := by
  have h0 := Own.made w1 _ [.slice none 0 0, .slice none 0 0, .int .i64 0, .int .i64 0, .int .i64 0, .slice none 0 0, .int .i64 0, .int .i64 0, .int .i64 0] 36 rfl
  have hd := below_t ((Below.refl _ W).drew) hb1
  exact ⟨h0.keep hb2 h0.lt, below_t hd (below_t (below_alloc w1 _) hb2), hd.size⟩
theorem join_L3 {W w1 w2 : World} (hb1 : Below W.drew.heap.size W.drew w1) (hb2 : Below w1.heap.size w1 w2) : Below W.heap.size W w2 := below_t ((Below.refl _ W).drew) (below_t hb1 hb2)
theorem Axis_is (x y : PV) (a : Int) (ha : axR x.lo x.hi y.lo y.hi = a) (h : OneAcc x y) (hl1 : x.hi.length = x.lo.length) (hl2 : y.lo.length = x.lo.length) (hl3 : y.hi.length = x.lo.length) (w : World) (hx : PVI w x) (hy : PVI w y) :
    Calls Try.prog 12 #[.agg #[.slice x.p x.lo.length x.c, .slice x.q x.hi.length x.f, .int .i64 x.k, .int .i64 x.b, .int .i64 x.e, .slice x.g x.s.length x.d, .int .i64 x.st, .int .i64 x.sp, .int .i64 x.md], .agg #[.slice y.p y.lo.length y.c, .slice y.q y.hi.length y.f, .int .i64 y.k, .int .i64 y.b, .int .i64 y.e, .slice y.g y.s.length y.d, .int .i64 y.st, .int .i64 y.sp, .int .i64 y.md]] w fun e w' => e = .returned (.int .i64 a) ∧ Below w.heap.size w w' := ha ▸ Axis_any x y h hl1 hl2 hl3 w hx hy
theorem three_pieces (w : World) (x y : PV) : ∃ W, ((w.alloc (.cells #[.slice x.p x.lo.length x.c, .slice x.q x.hi.length x.f, .int .i64 x.k, .int .i64 x.b, .int .i64 x.e, .slice x.g x.s.length x.d, .int .i64 x.st, .int .i64 x.sp, .int .i64 x.md] 36)).alloc (.cells #[.slice y.p y.lo.length y.c, .slice y.q y.hi.length y.f, .int .i64 y.k, .int .i64 y.b, .int .i64 y.e, .slice y.g y.s.length y.d, .int .i64 y.st, .int .i64 y.sp, .int .i64 y.md] 36)).alloc (.cells #[.slice none 0 0, .slice none 0 0, .int .i64 0, .int .i64 0, .int .i64 0, .slice none 0 0, .int .i64 0, .int .i64 0, .int .i64 0] 36) = W ∧ W.heap.size = w.heap.size + 3 ∧ Below w.heap.size w W ∧ Own W w.heap.size 36 [.slice x.p x.lo.length x.c, .slice x.q x.hi.length x.f, .int .i64 x.k, .int .i64 x.b, .int .i64 x.e, .slice x.g x.s.length x.d, .int .i64 x.st, .int .i64 x.sp, .int .i64 x.md] ∧ Own W (w.heap.size + 1) 36 [.slice y.p y.lo.length y.c, .slice y.q y.hi.length y.f, .int .i64 y.k, .int .i64 y.b, .int .i64 y.e, .slice y.g y.s.length y.d, .int .i64 y.st, .int .i64 y.sp, .int .i64 y.md] ∧ Own W (w.heap.size + 2) 36 [.slice none 0 0, .slice none 0 0, .int .i64 0, .int .i64 0, .int .i64 0, .slice none 0 0, .int .i64 0, .int .i64 0, .int .i64 0] := by
  have OA := Own.made w w.heap.size [.slice x.p x.lo.length x.c, .slice x.q x.hi.length x.f, .int .i64 x.k, .int .i64 x.b, .int .i64 x.e, .slice x.g x.s.length x.d, .int .i64 x.st, .int .i64 x.sp, .int .i64 x.md] 36 rfl
  have b2 := below_alloc (w.alloc (.cells #[.slice x.p x.lo.length x.c, .slice x.q x.hi.length x.f, .int .i64 x.k, .int .i64 x.b, .int .i64 x.e, .slice x.g x.s.length x.d, .int .i64 x.st, .int .i64 x.sp, .int .i64 x.md] 36)) (.cells #[.slice y.p y.lo.length y.c, .slice y.q y.hi.length y.f, .int .i64 y.k, .int .i64 y.b, .int .i64 y.e, .slice y.g y.s.length y.d, .int .i64 y.st, .int .i64 y.sp, .int .i64 y.md] 36)
  have OB := Own.made (w.alloc (.cells #[.slice x.p x.lo.length x.c, .slice x.q x.hi.length x.f, .int .i64 x.k, .int .i64 x.b, .int .i64 x.e, .slice x.g x.s.length x.d, .int .i64 x.st, .int .i64 x.sp, .int .i64 x.md] 36)) (w.heap.size + 1) [.slice y.p y.lo.length y.c, .slice y.q y.hi.length y.f, .int .i64 y.k, .int .i64 y.b, .int .i64 y.e, .slice y.g y.s.length y.d, .int .i64 y.st, .int .i64 y.sp, .int .i64 y.md] 36 (by simp)
  have b3 := below_alloc ((w.alloc (.cells #[.slice x.p x.lo.length x.c, .slice x.q x.hi.length x.f, .int .i64 x.k, .int .i64 x.b, .int .i64 x.e, .slice x.g x.s.length x.d, .int .i64 x.st, .int .i64 x.sp, .int .i64 x.md] 36)).alloc (.cells #[.slice y.p y.lo.length y.c, .slice y.q y.hi.length y.f, .int .i64 y.k, .int .i64 y.b, .int .i64 y.e, .slice y.g y.s.length y.d, .int .i64 y.st, .int .i64 y.sp, .int .i64 y.md] 36)) (.cells #[.slice none 0 0, .slice none 0 0, .int .i64 0, .int .i64 0, .int .i64 0, .slice none 0 0, .int .i64 0, .int .i64 0, .int .i64 0] 36)
  have OA2 := OA.keep b2 OA.lt
  exact ⟨_, rfl, by simp, below_t (below_alloc _ _) (below_t b2 b3), OA2.keep b3 OA2.lt, OB.keep b3 OB.lt, Own.made _ (w.heap.size + 2) [.slice none 0 0, .slice none 0 0, .int .i64 0, .int .i64 0, .int .i64 0, .slice none 0 0, .int .i64 0, .int .i64 0, .int .i64 0] _ (by simp)⟩

set_option maxRecDepth 100000 in
set_option maxHeartbeats 4000000 in
theorem Join_no (x y : PV) (a : Int) (ha : axR x.lo x.hi y.lo y.hi = a) (h0 : a < 0) (h : OneAcc x y) (hl1 : x.hi.length = x.lo.length) (hl2 : y.lo.length = x.lo.length) (hl3 : y.hi.length = x.lo.length) (w : World) (hx : PVI w x) (hy : PVI w y) :
    Calls Try.prog 10 #[.agg #[.slice x.p x.lo.length x.c, .slice x.q x.hi.length x.f, .int .i64 x.k, .int .i64 x.b, .int .i64 x.e, .slice x.g x.s.length x.d, .int .i64 x.st, .int .i64 x.sp, .int .i64 x.md], .agg #[.slice y.p y.lo.length y.c, .slice y.q y.hi.length y.f, .int .i64 y.k, .int .i64 y.b, .int .i64 y.e, .slice y.g y.s.length y.d, .int .i64 y.st, .int .i64 y.sp, .int .i64 y.md]] w fun e w' => e = .returned (.tuple #[.agg #[.slice none 0 0, .slice none 0 0, .int .i64 0, .int .i64 0, .int .i64 0, .slice none 0 0, .int .i64 0, .int .i64 0, .int .i64 0], .bool false]) ∧ Below w.heap.size w w' := by
  obtain ⟨W, hW, hz, hbW, OA, OB, OR⟩ := three_pieces w x y
  have HW := Lib.hid hW
  have hd : decide (a < 0) = true := by simpa using h0
  have L1 := Lib.hid hl1
  have L2 := Lib.hid hl2
  have L3 := Lib.hid hl3
  have HA := Lib.hid ha
  clear hW ha h0 hl1 hl2 hl3
  have a0 := OA.cell (i := 0) rfl
  have a1 := OA.cell (i := 1) rfl
  have a2 := OA.cell (i := 2) rfl
  have a3 := OA.cell (i := 3) rfl
  have a4 := OA.cell (i := 4) rfl
  have a5 := OA.cell (i := 5) rfl
  have a6 := OA.cell (i := 6) rfl
  have a7 := OA.cell (i := 7) rfl
  have a8 := OA.cell (i := 8) rfl
  have b0 := OB.cell (i := 0) rfl
  have b1 := OB.cell (i := 1) rfl
  have b2 := OB.cell (i := 2) rfl
  have b3 := OB.cell (i := 3) rfl
  have b4 := OB.cell (i := 4) rfl
  have b5 := OB.cell (i := 5) rfl
  have b6 := OB.cell (i := 6) rfl
  have b7 := OB.cell (i := 7) rfl
  have b8 := OB.cell (i := 8) rfl
  go_enter Try.func10, Try.ntmps10
  go_wp2_with fail
  rw [HW.out]
  clear HW
  go_wp2_with fail
  refine (Axis_is x y a HA.out h L1.out L2.out L3.out W (hx.keep hbW) (hy.keep hbW)).mono ?_
  rintro e1 w1 ⟨rfl, hb1⟩
  have OR := OR.keep hb1 OR.lt
  have hb := below_t hbW hb1
  have r0 := OR.cell (i := 0) rfl
  have g0 := OR.frozen 0
  have r1 := OR.cell (i := 1) rfl
  have g1 := OR.frozen 1
  have r2 := OR.cell (i := 2) rfl
  have g2 := OR.frozen 2
  have r3 := OR.cell (i := 3) rfl
  have g3 := OR.frozen 3
  have r4 := OR.cell (i := 4) rfl
  have g4 := OR.frozen 4
  have r5 := OR.cell (i := 5) rfl
  have g5 := OR.frozen 5
  have r6 := OR.cell (i := 6) rfl
  have g6 := OR.frozen 6
  have r7 := OR.cell (i := 7) rfl
  have g7 := OR.frozen 7
  have r8 := OR.cell (i := 8) rfl
  have g8 := OR.frozen 8
  clear hb1 a0 b0 a1 b1 a2 b2 a3 b3 a4 b4 a5 b5 a6 b6 a7 b7 a8 b8
  go_wp2_with fail
  refine bodyPost_ret (v := .tuple #[.agg #[.slice none 0 0, .slice none 0 0, .int .i64 0, .int .i64 0, .int .i64 0, .slice none 0 0, .int .i64 0, .int .i64 0, .int .i64 0], .bool false]) (by simp [results, Try.results10, go_sem, r0, g0, r1, g1, r2, g2, r3, g3, r4, g4, r5, g5, r6, g6, r7, g7, r8, g8]) rfl ?_
  exact ⟨rfl, set9_below (x := ⟨none, 0, [], none, 0, [], 0, 0, 0, none, 0, [], 0, 0, 0⟩) hb (by omega)⟩

end Go.Proofs.Ytgbeokfpegdgdaa
