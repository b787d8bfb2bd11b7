/- A box that is moved along an axis: box.Shift. No condition beyond what each says. -/
import Derived.Test.YthkfjdhakbjllaaBox18
namespace Go.Proofs.Ythkfjdhakbjllaa
open Go.RowKit Go.Shelf
set_option linter.unusedVariables false
set_option linter.unusedSimpArgs false

/-- a fact that stores from block n on leave as it is -/
def KeepsS (n : Nat) (S : World → Prop) : Prop := ∀ (z : World) (g i : Nat) (v : Value), n ≤ g → S z → S (z.setCell ⟨g, i, none⟩ v)
/-- a fact that does not hang on what a new block from n on holds -/
def KeepsA (n : Nat) (S : World → Prop) : Prop := ∀ (z : World) (o o' : Obj), n ≤ z.heap.size → S (z.alloc o) → S (z.alloc o')
theorem KeepsS.and {n : Nat} {S T : World → Prop} (h : KeepsS n S) (k : KeepsS n T) : KeepsS n fun w => S w ∧ T w := fun z g i v hg ⟨a, b⟩ => ⟨h z g i v hg a, k z g i v hg b⟩
theorem KeepsA.and {n : Nat} {S T : World → Prop} (h : KeepsA n S) (k : KeepsA n T) : KeepsA n fun w => S w ∧ T w := fun z o o' hg ⟨a, b⟩ => ⟨h z o o' hg a, k z o o' hg b⟩
theorem keepsS_cell {n b : Nat} (o : Nat) (u : Value) (hb : b < n) : KeepsS n fun w => b < w.heap.size ∧ w.cell? ⟨b, o, none⟩ = some u := by
  rintro z g i v hg ⟨h1, h2⟩
  exact ⟨by simpa using h1, by rw [World.cell?_setCell_far _ _ _ _ (by show g ≠ b; omega)]; exact h2⟩
theorem keepsA_cell {n b : Nat} (o : Nat) (u : Value) (hb : b < n) : KeepsA n fun w => b < w.heap.size ∧ w.cell? ⟨b, o, none⟩ = some u := by
  rintro z p p' hg ⟨h1, h2⟩
  have hf : ∀ p, (z.alloc p).cell? ⟨b, o, none⟩ = z.cell? ⟨b, o, none⟩ := fun p => (below_alloc z p).cell (p := ⟨b, o, none⟩) (by show b < _; omega)
  exact ⟨by simp; omega, (hf p').trans ((hf p).symm.trans h2)⟩
theorem keepsS_below {n : Nat} {w0 : World} (h : w0.heap.size ≤ n) : KeepsS n fun w => Below w0.heap.size w0 w := fun z g i v hg hb => below_set hb (by omega) i v
theorem keepsA_below {n : Nat} {w0 : World} (h : w0.heap.size ≤ n) : KeepsA n fun w => Below w0.heap.size w0 w := fun z o o' hg h4 =>
  below_t (⟨h4.os, h4.tape, h4.output, by omega, fun k hk => ((below_alloc z o).block k (by omega)).symm.trans (h4.block k hk)⟩ : Below w0.heap.size w0 z) (below_alloc z o')
theorem KeepsS.two {n : Nat} {S : World → Prop} (h : KeepsS n S) (z : World) (g i j : Nat) (u v : Value) (hg : n ≤ g) (hs : S z) : S ((z.setCell ⟨g, i, none⟩ u).setCell ⟨g, j, none⟩ v) := h _ _ _ _ hg (h _ _ _ _ hg hs)

theorem wrap_is {x y : Int} (h : wrap64 x = y) : IntKind.i64.wrap x = y := by
  rw [← h]
  unfold wrap64
  exact IntKind.wrap_i64 x
/-- a variable that holds a box of new rows, beside the result's cell -/
def VarSt (w : World) (xs ys : List Int) (n m : Nat) (g : Nat) (z : World) : Prop :=
  ∃ p1 p2 c1 c2, Own z g 67 [.slice p1 n c1, .slice p2 m c2] ∧ New w.heap.size z p1 3 (xs.map (.int .i64)) ∧ New w.heap.size z p2 3 (ys.map (.int .i64)) ∧
    w.heap.size + 2 ≤ g ∧ Own z (w.heap.size + 1) 67 [.slice none 0 0, .slice none 0 0] ∧ Below w.heap.size w z
theorem var_L1 {w W w1 : World} {n m c1 c2 : Nat} {p1 p2 : Option Addr} {xs ys : List Int} (hW : W.heap.size = w.heap.size + 2) (hbW : Below w.heap.size w W) (hr : Own W (w.heap.size + 1) 67 [.slice none 0 0, .slice none 0 0])
    (hb1 : Below (W.alloc (.cells #[.slice none 0 0, .slice none 0 0] 67)).drew.heap.size (W.alloc (.cells #[.slice none 0 0, .slice none 0 0] 67)).drew w1)
    (h1 : New (W.alloc (.cells #[.slice none 0 0, .slice none 0 0] 67)).drew.heap.size w1 p1 3 (xs.map (.int .i64))) (h2 : New (W.alloc (.cells #[.slice none 0 0, .slice none 0 0] 67)).drew.heap.size w1 p2 3 (ys.map (.int .i64))) :
    VarSt w xs ys n m W.heap.size ((w1.setCell ⟨W.heap.size, 0, none⟩ (.slice p1 n c1)).setCell ⟨W.heap.size, 1, none⟩ (.slice p2 m c2)) := by
  have h0 : Own (W.alloc (.cells #[.slice none 0 0, .slice none 0 0] 67)).drew W.heap.size 67 [.slice none 0 0, .slice none 0 0] := Own.made W _ [.slice none 0 0, .slice none 0 0] 67 rfl
  have ho := h0.keep hb1 h0.lt
  have hx := below_t ((below_alloc W (.cells #[.slice none 0 0, .slice none 0 0] 67)).drew) hb1
  have o1 := ho.set (i := 0) (by simp) (.slice p1 n c1)
  have hle : w.heap.size ≤ (W.alloc (.cells #[.slice none 0 0, .slice none 0 0] 67)).drew.heap.size := by simp; omega
  refine ⟨p1, p2, c1, c2, o1.set (i := 1) (by simp) _, ((h1.otherB ho _).otherB o1 _).mono hle, ((h2.otherB ho _).otherB o1 _).mono hle, by omega, ?_, below_set (below_set (below_t hbW hx) (by omega) 0 _) (by omega) 1 _⟩
  exact (((hr.keep hx hr.lt).other (a := ⟨W.heap.size, 0, none⟩) (by show W.heap.size ≠ _; omega) _).other (a := ⟨W.heap.size, 1, none⟩) (by show W.heap.size ≠ _; omega) _)
theorem var_L3 {w W w1 : World} {n m c1 c2 : Nat} {p1 p2 : Option Addr} {xs ys : List Int} (hW : W.heap.size = w.heap.size + 2) (hbW : Below w.heap.size w W) (hr : Own W (w.heap.size + 1) 67 [.slice none 0 0, .slice none 0 0])
    (hb1 : Below W.drew.heap.size W.drew w1) (h1 : New W.drew.heap.size w1 p1 3 (xs.map (.int .i64))) (h2 : New W.drew.heap.size w1 p2 3 (ys.map (.int .i64))) :
    VarSt w xs ys n m w1.heap.size (w1.alloc (.cells #[.slice p1 n c1, .slice p2 m c2] 67)) := by
  have hx := below_t ((Below.refl _ W).drew) hb1
  have hba := below_alloc w1 (.cells #[.slice p1 n c1, .slice p2 m c2] 67)
  have hz := hx.size
  have hle : w.heap.size ≤ W.drew.heap.size := by simp; omega
  exact ⟨p1, p2, c1, c2, Own.made w1 _ [.slice p1 n c1, .slice p2 m c2] _ rfl, (h1.keep' hba).mono hle, (h2.keep' hba).mono hle, by omega, (hr.keep hx hr.lt).keep hba (by omega), below_t hbW (below_t hx hba)⟩
theorem own_L1 {W w1 : World} (hb1 : Below (W.alloc (.cells #[.slice none 0 0, .slice none 0 0] 67)).drew.heap.size (W.alloc (.cells #[.slice none 0 0, .slice none 0 0] 67)).drew w1) : Own w1 W.heap.size 67 [.slice none 0 0, .slice none 0 0] := by
  have h0 : Own (W.alloc (.cells #[.slice none 0 0, .slice none 0 0] 67)).drew W.heap.size 67 [.slice none 0 0, .slice none 0 0] := Own.made W _ [.slice none 0 0, .slice none 0 0] 67 rfl
  exact h0.keep hb1 h0.lt

/-- the two blocks that a function on boxes begins with -/
theorem two_blocks (w : World) (A B : Value) : ∃ W, (w.alloc (.cells #[A, B] 67)).alloc (.cells #[.slice none 0 0, .slice none 0 0] 67) = W ∧ W.heap.size = w.heap.size + 2 ∧ Below w.heap.size w W ∧ Own W w.heap.size 67 [A, B] ∧ Own W (w.heap.size + 1) 67 [.slice none 0 0, .slice none 0 0] := by
  have b1 := below_alloc w (.cells #[A, B] 67)
  have OA := Own.made w w.heap.size [A, B] 67 rfl
  have b2 := below_alloc (w.alloc (.cells #[A, B] 67)) (.cells #[.slice none 0 0, .slice none 0 0] 67)
  exact ⟨_, rfl, by simp, below_t b1 b2, OA.keep b2 OA.lt, Own.made _ (w.heap.size + 1) [.slice none 0 0, .slice none 0 0] 67 (by simp)⟩

theorem BoxRight_is (p q : Option Addr) (c f : Nat) (lo hi : List Int) (n m : Nat) (hn : n = lo.length) (hm : m = hi.length) (r : Bool) (hr : rightX lo hi = r) (w : World) (h : Ints w p lo) (h' : Ints w q hi) :
    Calls Try.prog 51 #[.agg #[.slice p n c, .slice q m f]] w fun e w' => e = .returned (.bool r) ∧ Below w.heap.size w w' := by
  subst hn hm
  exact hr ▸ BoxRight_any p q c f lo hi w h h'

def ShiftOk (lo hi : List Int) (a : Nat) (by' : Int) : Prop := RightX (lo.set a (nth lo a + by')) (hi.set a (nth hi a + by'))
instance (lo hi : List Int) (a : Nat) (b : Int) : Decidable (ShiftOk lo hi a b) := inferInstanceAs (Decidable (RightX _ _))
def ShiftRet (lo hi : List Int) (a : Nat) (b : Int) (w : World) (e : Ending) (w' : World) : Prop :=
  (if ShiftOk lo hi a b then ∃ p1 c1 p2 c2, e = .returned (.tuple #[.agg #[.slice p1 lo.length c1, .slice p2 hi.length c2], .bool true]) ∧ New w.heap.size w' p1 3 ((lo.set a (nth lo a + b)).map (.int .i64)) ∧ New w.heap.size w' p2 3 ((hi.set a (nth hi a + b)).map (.int .i64))
   else e = .returned (.tuple #[.agg #[.slice none 0 0, .slice none 0 0], .bool false])) ∧ Below w.heap.size w w'

set_option maxRecDepth 100000 in
set_option maxHeartbeats 4000000 in
theorem Shift_in (p q : Option Addr) (c f : Nat) (lo hi : List Int) (a : Nat) (s : Int) (ha : a < lo.length) (hlh : lo.length = hi.length) (hl : lo.length ≤ 1000000) (hs : -65536 ≤ s ∧ s ≤ 65536) (hr : RightX lo hi) (w : World) (h : Ints w p lo) (h' : Ints w q hi) :
    Calls Try.prog 63 #[.agg #[.slice p lo.length c, .slice q hi.length f], .int .i64 a, .int .i64 s] w (ShiftRet lo hi a s w) := by
  have hl' : hi.length ≤ 1000000 := by omega
  have ha' : a < hi.length := by omega
  have HL := Lib.hid hlh
  clear hlh
  obtain ⟨bl, ol, rfl, hbl, ca⟩ := h.at ha
  obtain ⟨bh, oh, rfl, hbh, cb⟩ := h'.at ha'
  obtain ⟨x, hx⟩ : ∃ x, nth lo a = x := ⟨_, rfl⟩
  obtain ⟨y, hy⟩ : ∃ y, nth hi a = y := ⟨_, rfl⟩
  have hb := hr.2.2 a ha
  rw [hx, hy] at hb
  rw [hx] at ca
  rw [hy] at cb
  have HX := Lib.hid hx
  have HY := Lib.hid hy
  have hw1 : wrap64 (x + s) = x + s := wrap64_id (by omega) (by omega)
  have hw2 : wrap64 (y + s) = y + s := wrap64_id (by omega) (by omega)
  have hv1 : IntKind.i64.wrap (x + s) = x + s := wrap_is hw1
  have hv2 : IntKind.i64.wrap (y + s) = y + s := wrap_is hw2
  have HI1 : Hid (∀ u ∈ lo.set a (x + s), I64 u) := fun u hu => by
    rcases List.mem_or_eq_of_mem_set hu with h1 | h1
    · exact h.i64 u h1
    · rw [h1]; unfold I64; omega
  have HI2 : Hid (∀ u ∈ hi.set a (y + s), I64 u) := fun u hu => by
    rcases List.mem_or_eq_of_mem_set hu with h1 | h1
    · exact h'.i64 u h1
    · rw [h1]; unfold I64; omega
  clear hx hy hb hr
  obtain ⟨W, hW, hz, hbW, OA, OB⟩ := two_blocks w (.slice (some ⟨bl, ol, none⟩) lo.length c) (.slice (some ⟨bh, oh, none⟩) hi.length f)
  have HW := Lib.hid hW
  have Z2 := Lib.hid hz
  have hOB := Lib.hid OB
  have hbW' := Lib.hid hbW
  have d1 : decide ((a : Int) < 0) = false := by simp
  have d2 : decide ((lo.length : Int) ≤ (a : Int)) = false := by simp; omega
  have d3 : decide (65536 < s) = false := by simp; omega
  have d4 : decide (s < -65536) = false := by simp; omega
  have hi1 : (a : Int) < (lo.length : Int) := by omega
  have hi2 : (a : Int) < (hi.length : Int) := by omega
  have q0 := OA.cell (i := 0) rfl
  have hlt := OA.lt
  have e1 : W.cell? ⟨bl, ol + a, none⟩ = some (.int .i64 x) := (hbW.cell (p := ⟨bl, ol + a, none⟩) hbl).trans ca
  have e2 : W.cell? ⟨bh, oh + a, none⟩ = some (.int .i64 y) := (hbW.cell (p := ⟨bh, oh + a, none⟩) hbh).trans cb
  have hKS : Keeps (fun w' => (w.heap.size < w'.heap.size ∧ w'.cell? ⟨w.heap.size, 0, none⟩ = some (.slice (some ⟨bl, ol, none⟩) lo.length c)) ∧ (w.heap.size < w'.heap.size ∧ w'.cell? ⟨w.heap.size, 1, none⟩ = some (.slice (some ⟨bh, oh, none⟩) hi.length f)) ∧ (bl < w'.heap.size ∧ w'.cell? ⟨bl, ol + a, none⟩ = some (.int .i64 x)) ∧ (bh < w'.heap.size ∧ w'.cell? ⟨bh, oh + a, none⟩ = some (.int .i64 y)) ∧ Below w.heap.size w w') := (keeps_cell _ _ _).and ((keeps_cell _ _ _).and ((keeps_cell _ _ _).and ((keeps_cell _ _ _).and (keeps_below w))))
  have hKT : KeepsS (w.heap.size + 2) (fun w' => (w.heap.size < w'.heap.size ∧ w'.cell? ⟨w.heap.size, 0, none⟩ = some (.slice (some ⟨bl, ol, none⟩) lo.length c)) ∧ (w.heap.size < w'.heap.size ∧ w'.cell? ⟨w.heap.size, 1, none⟩ = some (.slice (some ⟨bh, oh, none⟩) hi.length f)) ∧ (bl < w'.heap.size ∧ w'.cell? ⟨bl, ol + a, none⟩ = some (.int .i64 x)) ∧ (bh < w'.heap.size ∧ w'.cell? ⟨bh, oh + a, none⟩ = some (.int .i64 y)) ∧ Below w.heap.size w w') := (keepsS_cell _ _ (by omega)).and ((keepsS_cell _ _ (by omega)).and ((keepsS_cell _ _ (by omega)).and ((keepsS_cell _ _ (by omega)).and (keepsS_below (by omega)))))
  have hKA : KeepsA (w.heap.size + 2) (fun w' => (w.heap.size < w'.heap.size ∧ w'.cell? ⟨w.heap.size, 0, none⟩ = some (.slice (some ⟨bl, ol, none⟩) lo.length c)) ∧ (w.heap.size < w'.heap.size ∧ w'.cell? ⟨w.heap.size, 1, none⟩ = some (.slice (some ⟨bh, oh, none⟩) hi.length f)) ∧ (bl < w'.heap.size ∧ w'.cell? ⟨bl, ol + a, none⟩ = some (.int .i64 x)) ∧ (bh < w'.heap.size ∧ w'.cell? ⟨bh, oh + a, none⟩ = some (.int .i64 y)) ∧ Below w.heap.size w w') := (keepsA_cell _ _ (by omega)).and ((keepsA_cell _ _ (by omega)).and ((keepsA_cell _ _ (by omega)).and ((keepsA_cell _ _ (by omega)).and (keepsA_below (by omega)))))
  have hS : (fun w' => (w.heap.size < w'.heap.size ∧ w'.cell? ⟨w.heap.size, 0, none⟩ = some (.slice (some ⟨bl, ol, none⟩) lo.length c)) ∧ (w.heap.size < w'.heap.size ∧ w'.cell? ⟨w.heap.size, 1, none⟩ = some (.slice (some ⟨bh, oh, none⟩) hi.length f)) ∧ (bl < w'.heap.size ∧ w'.cell? ⟨bl, ol + a, none⟩ = some (.int .i64 x)) ∧ (bh < w'.heap.size ∧ w'.cell? ⟨bh, oh + a, none⟩ = some (.int .i64 y)) ∧ Below w.heap.size w w') W := ⟨⟨OA.lt, OA.cell (i := 0) rfl⟩, ⟨OA.lt, OA.cell (i := 1) rfl⟩, ⟨by omega, e1⟩, ⟨by omega, e2⟩, hbW⟩
  clear hW hz OB hbW OA
  go_enter Try.func63, Try.ntmps63
  go_wp2_with fail
  rw [HW.out]
  clear HW
  go_upto_region 3 with fail
  clear q0 e1 e2 d1 d2 d3 d4
  go_cut [8] (fun t wx => ∃ g wz, t = .pointer (some ⟨g, 0, none⟩) ∧ wz = wx ∧ Hid (VarSt w (lo.set a (x + s)) (hi.set a (y + s)) lo.length hi.length g wz))
  case first =>
    refine wp_region_noPanic ?_
    refine wp_region_held_drew (S := (fun w' => (w.heap.size < w'.heap.size ∧ w'.cell? ⟨w.heap.size, 0, none⟩ = some (.slice (some ⟨bl, ol, none⟩) lo.length c)) ∧ (w.heap.size < w'.heap.size ∧ w'.cell? ⟨w.heap.size, 1, none⟩ = some (.slice (some ⟨bh, oh, none⟩) hi.length f)) ∧ (bl < w'.heap.size ∧ w'.cell? ⟨bl, ol + a, none⟩ = some (.int .i64 x)) ∧ (bh < w'.heap.size ∧ w'.cell? ⟨bh, oh + a, none⟩ = some (.int .i64 y)) ∧ Below w.heap.size w w')) (by kernel_rfl) ?_ (fun hHeld => ?_)
    · (try dsimp only); first | exact hKS _ _ (by first | exact hHeld | exact hS) (by first | assumption | (go_grown; done) | (refine from_drew ?_; go_grown; done)) | exact hKT.two _ _ _ _ _ _ (by have := Z2.out; omega) hHeld | exact hKA w1 _ _ (by have := Z2.out; have := hb1.size; simp at this; omega) hHeld
    refine takeH 0 (some 27) (v := ?_) rfl rfl (by kernel_rfl) (by kernel_rfl) (by kernel_rfl) (by rfl) ?_ (by exact hHeld) ?_
    rotate_left
    · intro w hSw; (try dsimp only at hSw); go_simp; try (with_reducible rfl)
    try simp only [Act.put, List.setIfInBounds_toArray, List.set_cons_zero, List.set_cons_succ]
    refine takeH 1 (some 28) (v := ?_) rfl rfl (by kernel_rfl) (by kernel_rfl) (by kernel_rfl) (by rfl) ?_ (by exact hHeld) ?_
    rotate_left
    · intro w hSw; (try dsimp only at hSw); go_simp; try (with_reducible rfl)
    try simp only [Act.put, List.setIfInBounds_toArray, List.set_cons_zero, List.set_cons_succ]
    refine takeH 2 (some 29) (v := ?_) rfl rfl (by kernel_rfl) (by kernel_rfl) (by kernel_rfl) (by rfl) ?_ (by exact hHeld) ?_
    rotate_left
    · intro w hSw; (try dsimp only at hSw); go_simp; try (with_reducible rfl)
    try simp only [Act.put, List.setIfInBounds_toArray, List.set_cons_zero, List.set_cons_succ]
    refine takeH 3 (some 30) (v := ?_) rfl rfl (by kernel_rfl) (by kernel_rfl) (by kernel_rfl) (by rfl) ?_ (by exact hHeld) ?_
    rotate_left
    · intro w hSw; (try dsimp only at hSw); go_simp; try (with_reducible rfl)
    try simp only [Act.put, List.setIfInBounds_toArray, List.set_cons_zero, List.set_cons_succ]
    refine takeH 4 (some 31) (v := ?_) rfl rfl (by kernel_rfl) (by kernel_rfl) (by kernel_rfl) (by rfl) ?_ (by exact hHeld) ?_
    rotate_left
    · intro w hSw; (try dsimp only at hSw); go_simp; try (with_reducible rfl)
    try simp only [Act.put, List.setIfInBounds_toArray, List.set_cons_zero, List.set_cons_succ]
    refine takeH 5 (some 32) (v := ?_) rfl rfl (by kernel_rfl) (by kernel_rfl) (by kernel_rfl) (by rfl) ?_ (by exact hHeld) ?_
    rotate_left
    · intro w hSw; (try dsimp only at hSw); go_simp; try (with_reducible rfl)
    try simp only [Act.put, List.setIfInBounds_toArray, List.set_cons_zero, List.set_cons_succ]
    refine takeH 6 (some 33) (v := ?_) rfl rfl (by kernel_rfl) (by kernel_rfl) (by kernel_rfl) (by rfl) ?_ (by exact hHeld) ?_
    rotate_left
    · intro w hSw; (try dsimp only at hSw); go_simp; try (with_reducible rfl)
    try simp only [Act.put, List.setIfInBounds_toArray, List.set_cons_zero, List.set_cons_succ]
    refine takeH 7 (some 34) (v := ?_) rfl rfl (by kernel_rfl) (by kernel_rfl) (by kernel_rfl) (by rfl) ?_ (by exact hHeld) ?_
    rotate_left
    · intro w hSw; (try dsimp only at hSw); go_simp; try (with_reducible rfl)
    try simp only [Act.put, List.setIfInBounds_toArray, List.set_cons_zero, List.set_cons_succ]
    refine takeH 8 (some 35) (v := ?_) rfl rfl (by kernel_rfl) (by kernel_rfl) (by kernel_rfl) (by rfl) ?_ (by exact hHeld) ?_
    rotate_left
    · intro w hSw; (try dsimp only at hSw); go_simp; try (with_reducible rfl)
    try simp only [Act.put, List.setIfInBounds_toArray, List.set_cons_zero, List.set_cons_succ]
    refine takeH 9 (some 36) (v := ?_) rfl rfl (by kernel_rfl) (by kernel_rfl) (by kernel_rfl) (by rfl) ?_ (by exact hHeld) ?_
    rotate_left
    · intro w hSw; (try dsimp only at hSw); go_simp; try (with_reducible rfl)
    try simp only [Act.put, List.setIfInBounds_toArray, List.set_cons_zero, List.set_cons_succ]
    refine takeH 10 (some 37) (v := ?_) rfl rfl (by kernel_rfl) (by kernel_rfl) (by kernel_rfl) (by rfl) ?_ (by exact hHeld) ?_
    rotate_left
    · intro w hSw; (try dsimp only at hSw); go_simp; try (with_reducible rfl)
    try simp only [Act.put, List.setIfInBounds_toArray, List.set_cons_zero, List.set_cons_succ]
    refine takeH 11 (some 38) (v := ?_) rfl rfl (by kernel_rfl) (by kernel_rfl) (by kernel_rfl) (by rfl) ?_ (by exact hHeld) ?_
    rotate_left
    · intro w hSw; (try dsimp only at hSw); go_simp; try (with_reducible rfl)
    try simp only [Act.put, List.setIfInBounds_toArray, List.set_cons_zero, List.set_cons_succ]
    refine takeH 12 (some 39) (v := ?_) rfl rfl (by kernel_rfl) (by kernel_rfl) (by kernel_rfl) (by rfl) ?_ (by exact hHeld) ?_
    rotate_left
    · intro w hSw; (try dsimp only at hSw); go_simp; try (with_reducible rfl)
    try simp only [Act.put, List.setIfInBounds_toArray, List.set_cons_zero, List.set_cons_succ]
    refine takeH 13 (some 40) (v := ?_) rfl rfl (by kernel_rfl) (by kernel_rfl) (by kernel_rfl) (by rfl) ?_ (by exact hHeld) ?_
    rotate_left
    · intro w hSw; (try dsimp only at hSw); go_simp; try (with_reducible rfl)
    try simp only [Act.put, List.setIfInBounds_toArray, List.set_cons_zero, List.set_cons_succ]
    refine takeH 14 (some 41) (v := ?_) rfl rfl (by kernel_rfl) (by kernel_rfl) (by kernel_rfl) (by rfl) ?_ (by exact hHeld) ?_
    rotate_left
    · intro w hSw; (try dsimp only at hSw); go_simp; try (with_reducible rfl)
    try simp only [Act.put, List.setIfInBounds_toArray, List.set_cons_zero, List.set_cons_succ]
    refine takeH 15 (some 42) (v := ?_) rfl rfl (by kernel_rfl) (by kernel_rfl) (by kernel_rfl) (by rfl) ?_ (by exact hHeld) ?_
    rotate_left
    · intro w hSw; (try dsimp only at hSw); go_simp; try (with_reducible rfl)
    try simp only [Act.put, List.setIfInBounds_toArray, List.set_cons_zero, List.set_cons_succ]
    refine wpAnyH_ready (rs := [16, 17]) (by kernel_rfl) (by simp) ?_
    refine stepH 16 rfl (by rfl) (fun K hK => ?_) ?_
    · go_simp
      ((with_reducible refine (With_any (some ⟨bl, ol, none⟩) (some ⟨bh, oh, none⟩) c f lo hi a (x + s) (y + s) ha HL.out hl _ ?_ ?_).mono ?_); (exact h.keep hHeld.2.2.2.2); (exact h'.keep hHeld.2.2.2.2); rintro e1 w1 ⟨⟨p1, c1, p2, c2, rfl, hn1, hn2⟩, hb1⟩)
      refine hK.out _ _ ?_ (fun hNew => ?_)
      · (try dsimp only); first | exact hKS _ _ (by first | exact hHeld | exact hS) (by first | assumption | (go_grown; done) | (refine from_drew ?_; go_grown; done)) | exact hKT.two _ _ _ _ _ _ (by have := Z2.out; omega) hHeld | exact hKA w1 _ _ (by have := Z2.out; have := hb1.size; simp at this; omega) hHeld
      clear hK K hHeld
      have hHeld := hNew
      clear hNew
      try dsimp only at hHeld
      try simp only [Act.put, List.setIfInBounds_toArray, List.set_cons_zero, List.set_cons_succ]
      refine wpAnyH_ready (rs := [17]) (by kernel_rfl) (by simp) ?_
      refine stepH 17 rfl (by rfl) (fun K hK => ?_) ?_
      · go_simp
        refine hK.out _ _ ?_ (fun hNew => ?_)
        · (try dsimp only); first | exact hKS _ _ (by first | exact hHeld | exact hS) (by first | assumption | (go_grown; done) | (refine from_drew ?_; go_grown; done)) | exact hKT.two _ _ _ _ _ _ (by have := Z2.out; omega) hHeld | exact hKA w1 _ _ (by have := Z2.out; have := hb1.size; simp at this; omega) hHeld
        clear hK K hHeld
        have hHeld := hNew
        clear hNew
        try dsimp only at hHeld
        try simp only [Act.put, List.setIfInBounds_toArray, List.set_cons_zero, List.set_cons_succ]
        refine wpAnyH_ready (rs := [18]) (by kernel_rfl) (by simp) ?_
        refine stepH 18 rfl (by rfl) (fun K hK => ?_) ?_
        · (try (have hO9 := own_L1 hb1; have q0 := hO9.cell (i := 0) rfl; have q1 := hO9.cell (i := 1) rfl; have f0 := hO9.frozen 0; have f1 := hO9.frozen 1)); go_simp
          refine hK.out _ _ ?_ (fun hNew => ?_)
          · (try dsimp only); first | exact hKS _ _ (by first | exact hHeld | exact hS) (by first | assumption | (go_grown; done) | (refine from_drew ?_; go_grown; done)) | exact hKT.two _ _ _ _ _ _ (by have := Z2.out; omega) hHeld | exact hKA w1 _ _ (by have := Z2.out; have := hb1.size; simp at this; omega) hHeld
          clear hK K hHeld
          have hHeld := hNew
          clear hNew
          try dsimp only at hHeld
          try simp only [Act.put, List.setIfInBounds_toArray, List.set_cons_zero, List.set_cons_succ]
          refine wpAnyH_done (by kernel_rfl) ?_ _
          refine NoPanic.normal ?_
          go_wp2_with fail
          all_goals go_meet
          first | exact ⟨_, _, rfl, rfl, var_L1 Z2.out hbW'.out hOB.out hb1 hn1 hn2⟩ | exact ⟨_, _, rfl, rfl, var_L3 Z2.out hbW'.out hOB.out hb1 hn1 hn2⟩
        exact AllReadyH.nil
      exact AllReadyH.nil
    refine stepH 17 rfl (by rfl) (fun K hK => ?_) ?_
    · go_simp
      refine hK.out _ _ ?_ (fun hNew => ?_)
      · (try dsimp only); first | exact hKS _ _ (by first | exact hHeld | exact hS) (by first | assumption | (go_grown; done) | (refine from_drew ?_; go_grown; done)) | exact hKT.two _ _ _ _ _ _ (by have := Z2.out; omega) hHeld | exact hKA w1 _ _ (by have := Z2.out; have := hb1.size; simp at this; omega) hHeld
      clear hK K hHeld
      have hHeld := hNew
      clear hNew
      try dsimp only at hHeld
      try simp only [Act.put, List.setIfInBounds_toArray, List.set_cons_zero, List.set_cons_succ]
      refine wpAnyH_ready (rs := [16]) (by kernel_rfl) (by simp) ?_
      refine stepH 16 rfl (by rfl) (fun K hK => ?_) ?_
      · go_simp
        ((with_reducible refine (With_any (some ⟨bl, ol, none⟩) (some ⟨bh, oh, none⟩) c f lo hi a (x + s) (y + s) ha HL.out hl _ ?_ ?_).mono ?_); (exact h.keep hHeld.2.2.2.2); (exact h'.keep hHeld.2.2.2.2); rintro e1 w1 ⟨⟨p1, c1, p2, c2, rfl, hn1, hn2⟩, hb1⟩)
        refine hK.out _ _ ?_ (fun hNew => ?_)
        · (try dsimp only); first | exact hKS _ _ (by first | exact hHeld | exact hS) (by first | assumption | (go_grown; done) | (refine from_drew ?_; go_grown; done)) | exact hKT.two _ _ _ _ _ _ (by have := Z2.out; omega) hHeld | exact hKA w1 _ _ (by have := Z2.out; have := hb1.size; simp at this; omega) hHeld
        clear hK K hHeld
        have hHeld := hNew
        clear hNew
        try dsimp only at hHeld
        try simp only [Act.put, List.setIfInBounds_toArray, List.set_cons_zero, List.set_cons_succ]
        refine wpAnyH_ready (rs := [18]) (by kernel_rfl) (by simp) ?_
        refine stepH 18 rfl (by rfl) (fun K hK => ?_) ?_
        · (try (have hO9 := own_L1 hb1; have q0 := hO9.cell (i := 0) rfl; have q1 := hO9.cell (i := 1) rfl; have f0 := hO9.frozen 0; have f1 := hO9.frozen 1)); go_simp
          refine hK.out _ _ ?_ (fun hNew => ?_)
          · (try dsimp only); first | exact hKS _ _ (by first | exact hHeld | exact hS) (by first | assumption | (go_grown; done) | (refine from_drew ?_; go_grown; done)) | exact hKT.two _ _ _ _ _ _ (by have := Z2.out; omega) hHeld | exact hKA w1 _ _ (by have := Z2.out; have := hb1.size; simp at this; omega) hHeld
          clear hK K hHeld
          have hHeld := hNew
          clear hNew
          try dsimp only at hHeld
          try simp only [Act.put, List.setIfInBounds_toArray, List.set_cons_zero, List.set_cons_succ]
          refine wpAnyH_done (by kernel_rfl) ?_ _
          refine NoPanic.normal ?_
          go_wp2_with fail
          all_goals go_meet
          first | exact ⟨_, _, rfl, rfl, var_L1 Z2.out hbW'.out hOB.out hb1 hn1 hn2⟩ | exact ⟨_, _, rfl, rfl, var_L3 Z2.out hbW'.out hOB.out hb1 hn1 hn2⟩
        exact AllReadyH.nil
      exact AllReadyH.nil
    exact AllReadyH.nil
  case rest =>
    obtain ⟨g, wz, rfl, rfl, HT⟩ := hcut
    clear hS hKS hKT hKA
    obtain ⟨p1, p2, c1, c2, og, n1, n2, hg, hr, hb⟩ := HT.out
    have q0 := og.cell (i := 0) rfl
    have q1 := og.cell (i := 1) rfl
    have l1 : lo.length = (lo.set a (x + s)).length := by rw [List.length_set]
    have l2 : hi.length = (hi.set a (y + s)).length := by rw [List.length_set]
    have k1 := Lib.hid (n1.ints HI1.out (by rw [← l1]; omega))
    have k2 := Lib.hid (n2.ints HI2.out (by rw [← l2]; omega))
    have L1 := Lib.hid l1
    have L2 := Lib.hid l2
    clear l1 l2
    obtain ⟨b, hbv⟩ : ∃ b, rightX (lo.set a (x + s)) (hi.set a (y + s)) = b := ⟨_, rfl⟩
    have HB := Lib.hid hbv
    clear hbv
    go_wp2_with fail
    refine (BoxRight_is p1 p2 c1 c2 (lo.set a (x + s)) (hi.set a (y + s)) _ _ L1.out L2.out b HB.out _ k1.out k2.out).mono ?_
    rintro e5 w5 ⟨rfl, hb5⟩
    have og := og.keep hb5 og.lt
    have n1 := n1.keep' hb5
    have n2 := n2.keep' hb5
    have hr := hr.keep hb5 hr.lt
    have hb := below_t hb hb5
    clear q0 q1 hb5 k1 k2 HT
    have q0 := og.cell (i := 0) rfl
    have q1 := og.cell (i := 1) rfl
    have r0 := hr.cell (i := 0) rfl
    have r1 := hr.cell (i := 1) rfl
    have f0 := hr.frozen 0
    have f1 := hr.frozen 1
    have hng : g ≠ w.heap.size + 1 := by omega
    cases b with
    | true =>
      have HO : Hid (ShiftOk lo hi a s) := by
        have := HB.out
        unfold rightX at this
        rw [decide_eq_true_iff] at this
        rw [Hid, ShiftOk, HX.out, HY.out]
        exact this
      go_wp2_with fail
      refine bodyPost_ret (v := .tuple #[.agg #[.slice p1 lo.length c1, .slice p2 hi.length c2], .bool true]) (by simp [results, Try.results63, go_sem, r0, r1, f0, f1]) rfl ⟨?_, ?_⟩
      · rw [if_pos HO.out, HX.out, HY.out]
        exact ⟨p1, c1, p2, c2, rfl, (n1.otherB hr _).otherB (hr.set (i := 0) (by simp) _) _, (n2.otherB hr _).otherB (hr.set (i := 0) (by simp) _) _⟩
      · exact below_set (below_set hb (by omega) 0 _) (by omega) 1 _
    | false =>
      have HO : Hid (¬ ShiftOk lo hi a s) := by
        have := HB.out
        unfold rightX at this
        rw [decide_eq_false_iff_not] at this
        rw [Hid, ShiftOk, HX.out, HY.out]
        exact this
      go_wp2_with fail
      refine bodyPost_ret (v := .tuple #[.agg #[.slice none 0 0, .slice none 0 0], .bool false]) (by simp [results, Try.results63, go_sem, r0, r1, f0, f1]) rfl ⟨?_, ?_⟩
      · rw [if_neg HO.out]
      · exact below_set (below_set hb (by omega) 0 _) (by omega) 1 _

/-- no such axis, or too far -/
theorem Shift_out (p q : Option Addr) (c f : Nat) (lo hi : List Int) (a s : Int) (hn : lo.length ≤ 9223372036854775807) (hno : a < 0 ∨ (lo.length : Int) ≤ a ∨ 65536 < s ∨ s < -65536) (w : World) :
    Calls Try.prog 63 #[.agg #[.slice p lo.length c, .slice q hi.length f], .int .i64 a, .int .i64 s] w fun e w' => e = .returned (.tuple #[.agg #[.slice none 0 0, .slice none 0 0], .bool false]) ∧ Below w.heap.size w w' := by
  have hb := below_t (below_alloc w (.cells #[.slice p lo.length c, .slice q hi.length f] 67)) (below_alloc _ (.cells #[.slice none 0 0, .slice none 0 0] 67))
  have HB := Lib.hid hb
  have HNO := Lib.hid hno
  clear hb hno
  by_cases g1 : a < 0
  · have d1 : decide (a < 0) = true := decide_eq_true g1
    clear g1
    go_enter Try.func63, Try.ntmps63
    go_wp2_with fail
    exact bodyPost_ret (v := .tuple #[.agg #[.slice none 0 0, .slice none 0 0], .bool false]) (by simp [results, Try.results63, go_sem]) rfl ⟨rfl, HB.out⟩
  · have d1 : decide (a < 0) = false := decide_eq_false g1
    by_cases g2 : (lo.length : Int) ≤ a
    · have d2 : decide ((lo.length : Int) ≤ a) = true := decide_eq_true g2
      clear g1 g2
      go_enter Try.func63, Try.ntmps63
      go_wp2_with fail
      exact bodyPost_ret (v := .tuple #[.agg #[.slice none 0 0, .slice none 0 0], .bool false]) (by simp [results, Try.results63, go_sem]) rfl ⟨rfl, HB.out⟩
    · have d2 : decide ((lo.length : Int) ≤ a) = false := decide_eq_false g2
      by_cases g3 : 65536 < s
      · have d3 : decide (65536 < s) = true := decide_eq_true g3
        clear g1 g2 g3
        go_enter Try.func63, Try.ntmps63
        go_wp2_with fail
        exact bodyPost_ret (v := .tuple #[.agg #[.slice none 0 0, .slice none 0 0], .bool false]) (by simp [results, Try.results63, go_sem]) rfl ⟨rfl, HB.out⟩
      · have d3 : decide (65536 < s) = false := decide_eq_false g3
        have d4 : decide (s < -65536) = true := decide_eq_true (by have := HNO.out; omega)
        clear g1 g2 g3
        go_enter Try.func63, Try.ntmps63
        go_wp2_with fail
        exact bodyPost_ret (v := .tuple #[.agg #[.slice none 0 0, .slice none 0 0], .bool false]) (by simp [results, Try.results63, go_sem]) rfl ⟨rfl, HB.out⟩
end Go.Proofs.Ythkfjdhakbjllaa
