/- The fixed results of layer 6 (box): awake, walked. No condition. -/
import Derived.Test.YthkfjdhakbjllaaBox26
namespace Go.Proofs.Ythkfjdhakbjllaa
open Go.RowKit Go.Shelf
set_option linter.unusedVariables false
set_option linter.unusedSimpArgs false

/-- a variable that holds a box -/
structure V2 (w : World) (g : Nat) (A B : Value) : Prop where
  own : Own w g 67 [A, B]
theorem V2.keep {a b : World} {g : Nat} {A B : Value} (h : V2 a g A B) (hb : Below a.heap.size a b) : V2 b g A B := ⟨h.own.keep hb h.own.lt⟩
theorem V2.c0 {w : World} {g : Nat} {A B : Value} (h : V2 w g A B) : w.cell? ⟨g, 0, none⟩ = some A := h.own.cell (i := 0) rfl
theorem V2.c1 {w : World} {g : Nat} {A B : Value} (h : V2 w g A B) : w.cell? ⟨g, 1, none⟩ = some B := h.own.cell (i := 1) rfl
theorem V2.lt {w : World} {g : Nat} {A B : Value} (h : V2 w g A B) : g < w.heap.size := h.own.lt
theorem V2.new (w : World) (A B : Value) : V2 (w.alloc (.cells #[A, B] 67)) w.heap.size A B := ⟨Own.made w _ [A, B] _ rfl⟩

theorem Exact_L (r : Option Addr) (d : Nat) (s : List Int) (g cap n : Nat) (bs : List BoxV) (L : List Bx) (hL : bs.map BoxV.bx = L) (hn : bs.length = n) (hcap : n ≤ cap) (hlen : n ≤ 100)
    (k1 : ∀ x ∈ L, RightX x.1 x.2 ∧ x.2.length = s.length ∧ (∀ j, j < x.2.length → nth x.2 j ≤ nth s j) ∧ x.1.length ≤ 5 ∧ (x.1.all fun y => decide (-1000 ≤ y ∧ y ≤ 1000)) = true ∧ (x.2.all fun y => decide (-1000 ≤ y ∧ y ≤ 1000)) = true)
    (k2 : ∀ i, i < L.length → ∀ j, j < i → ¬ Meets (L.getD i ([], [])).1 (L.getD i ([], [])).2 (L.getD j ([], [])).1 (L.getD j ([], [])).2)
    (k3 : ∀ k, k < L.length + 1 → 0 ≤ ((L.take k).map fun x => countX x.1 x.2).sum ∧ ((L.take k).map fun x => countX x.1 x.2).sum ≤ 1000000) (z : Bool) (hz : ((L.map fun x => countX x.1 x.2).sum == cellsS s) = z)
    (w : World) (h : Ints w r s) (hc : Cells w (some ⟨g, 0, none⟩) (flatB bs)) (hb : BoxesI w bs) (hg : g < w.heap.size) :
    Calls Try.prog 88 #[.slice r s.length d, .slice (some ⟨g, 0, none⟩) n cap] w fun e w' => e = .returned (.bool z) ∧ Below w.heap.size w w' := by
  subst hn
  have hlL : L.length = bs.length := by rw [← hL, List.length_map]
  have hs : ∀ k, sumC bs k = ((L.take k).map fun x => countX x.1 x.2).sum := fun k => by
    unfold sumC
    rw [← hL, ← List.map_take, List.map_map]
    rfl
  have hg' : ∀ (i : Nat) (x : BoxV), bs[i]? = some x → L.getD i ([], []) = (x.lo, x.hi) := fun i x hx => by
    rw [List.getD_eq_getElem?_getD, ← hL, List.getElem?_map, hx]
    rfl
  refine Exact_all r d s g cap bs hcap hlen ?_ ?_ ?_ ?_ z ?_ w h hc hb hg
  · intro b hb
    have := k1 b.bx (hL ▸ List.mem_map_of_mem hb)
    exact ⟨this.1, this.2.1, this.2.2.1⟩
  · intro b hb
    have := k1 b.bx (hL ▸ List.mem_map_of_mem hb)
    exact ⟨this.2.2.2.1, NL.dec this.2.2.2.2.1, NL.dec this.2.2.2.2.2⟩
  · intro i j hij x y hx hy
    have := k2 i (by rw [hlL]; exact (List.getElem?_eq_some_iff.1 hx).1) j hij
    rw [hg' i x hx, hg' j y hy] at this
    exact this
  · intro k hk
    rw [hs]
    exact k3 k (by omega)
  · rw [hs, List.take_of_length_le (by omega)]
    exact hz

theorem three_boxes {bs : List BoxV} {x0 x1 x2 : Bx} (h : bs.map BoxV.bx = [x0, x1, x2]) : ∃ p0 c0 q0 f0 p1 c1 q1 f1 p2 c2 q2 f2, bs = [⟨p0, c0, x0.1, q0, f0, x0.2⟩, ⟨p1, c1, x1.1, q1, f1, x1.2⟩, ⟨p2, c2, x2.1, q2, f2, x2.2⟩] := by
  match bs, h with
  | [b0, b1, b2], h =>
    simp only [List.map_cons, List.map_nil, List.cons.injEq, and_true] at h
    obtain ⟨rfl, rfl, rfl⟩ := h
    exact ⟨b0.p, b0.c, b0.q, b0.f, b1.p, b1.c, b1.q, b1.f, b2.p, b2.c, b2.q, b2.f, rfl⟩

/-- a list of three boxes -/
structure L3 (B : Nat) (w : World) (g cap : Nat) (b0 b1 b2 : BoxV) : Prop where
  row : w.ownsRow B 67 2 (.slice (some ⟨g, 0, none⟩) 3 cap) 3 (flatB [b0, b1, b2])
  news : NewsB B w [b0, b1, b2]
  small : ∀ b ∈ [b0, b1, b2], (NL b.lo ∧ NL b.hi) ∧ b.lo.length ≤ 100 ∧ b.hi.length ≤ 100
theorem L3.keep {B g cap : Nat} {a b : World} {b0 b1 b2 : BoxV} (h : L3 B a g cap b0 b1 b2) (hb : Below a.heap.size a b) : L3 B b g cap b0 b1 b2 := ⟨row_keep h.row hb, h.news.keep hb, h.small⟩
theorem L3.ints {B g cap : Nat} {w : World} {b0 b1 b2 : BoxV} (h : L3 B w g cap b0 b1 b2) : BoxesI w [b0, b1, b2] := fun b hb =>
  ⟨(h.news b hb).1.ints (h.small b hb).1.1.i64 (by have := (h.small b hb).2.1; omega), (h.news b hb).2.ints (h.small b hb).1.2.i64 (by have := (h.small b hb).2.2; omega)⟩
theorem L3.cell {B g cap : Nat} {w : World} {b0 b1 b2 : BoxV} (h : L3 B w g cap b0 b1 b2) {i : Nat} {u : Value} (hu : (flatB [b0, b1, b2])[i]? = some u) : w.cell? ⟨g, i, none⟩ = some u := by
  have := h.row.cells (g := g) rfl i u hu
  rwa [Addr.add_lit, Nat.zero_add] at this
theorem L3.three {B g cap : Nat} {w : World} {b0 b1 b2 : BoxV} (h : L3 B w g cap b0 b1 b2) : (Ints w b0.p b0.lo ∧ Ints w b0.q b0.hi) ∧ (Ints w b2.p b2.lo ∧ Ints w b2.q b2.hi) := ⟨h.ints b0 (by simp), h.ints b2 (by simp)⟩
theorem L3.lt {B g cap : Nat} {w : World} {b0 b1 b2 : BoxV} (h : L3 B w g cap b0 b1 b2) : g < w.heap.size := (row_lt h.row (j := g) rfl).2
theorem L3.cells {B g cap : Nat} {w : World} {b0 b1 b2 : BoxV} (h : L3 B w g cap b0 b1 b2) : Cells w (some ⟨g, 0, none⟩) (flatB [b0, b1, b2]) := .inr ⟨g, 0, rfl, h.lt, fun i u hu => by rw [Nat.zero_add]; exact h.cell hu⟩
theorem owns_cap {w : World} {B size n m cap : Nat} {e : TypeId} {a : Addr} {xs : List Value} (h : w.ownsRow B e size (.slice (some a) n cap) m xs) : m ≤ cap := by
  rcases h.2 with ⟨h, -⟩ | ⟨g, cap', cur, h, -, -, h4, -⟩
  · cases h
  · cases h
    exact h4
/-- an old world, seen from a later one -/
structure Old (W w : World) : Prop where
  below : Below W.heap.size W w
theorem Old.keep {W a b : World} (h : Old W a) (hb : Below a.heap.size a b) : Old W b := ⟨below_t h.below hb⟩
/-- four boxes in a row of the call's own -/
theorem four_boxes {w : World} {B : Nat} {v : Value} {b0 b1 b2 b3 : BoxV} (h : w.ownsRow B 67 2 v 4 (flatB [b0, b1, b2] ++ b3.vals)) : ∃ g cap, v = .slice (some ⟨g, 0, none⟩) 4 cap ∧ 4 ≤ cap ∧ g < w.heap.size ∧ Cells w (some ⟨g, 0, none⟩) (flatB [b0, b1, b2, b3]) := by
  have h' : w.ownsRow B 67 2 v [b0, b1, b2, b3].length (flatB [b0, b1, b2, b3]) := h
  obtain ⟨q, cap, rfl, hn⟩ := boxes_new h'
  obtain ⟨g, rfl, -, ho⟩ := hn.out (by simp [flatB, BoxV.vals])
  exact ⟨g, cap, rfl, owns_cap h', ho.lt, .inr ⟨g, 0, rfl, ho.lt, fun i u hu => by rw [Nat.zero_add]; exact ho.cell hu⟩⟩
theorem lit2 (w : World) (b : Nat) (x y : Int) (hb : b = w.heap.size) (hx : ([x, y].all fun x => decide (-1000 ≤ x ∧ x ≤ 1000)) = true) : Ints (w.alloc (.cells #[.int .i64 x, .int .i64 y] 3)) (some ⟨b, 0, none⟩) [x, y] := Ints.lit w b [x, y] _ hb (NL.dec hx).i64 (by simp)

set_option maxRecDepth 100000 in
set_option maxHeartbeats 600000 in
theorem awake06 (w : World) : Calls Try.prog 50 #[] w fun e w' => e = .returned (.bool true) ∧ Below w.heap.size w w' := by
  go_enter Try.func50, Try.ntmps50
  go_wp2_with fail
  refine (w06_whole _ _ _ (Ints.lit w _ [3, 3] _ rfl (NL.dec (by decide)).i64 (by decide))).mono ?_
  rintro e1 w1 ⟨⟨pa, ca, qa, fa, rfl, ia, ja⟩, hb1⟩
  have hb := below_1 hb1
  clear hb1
  obtain ⟨W2, HW2, hb2, A, B, ia, ja, ib, jb⟩ : ∃ W2, Hid ((((w1.alloc (.cells #[.slice pa 2 ca, .slice qa 2 fa] 67)).alloc (.cells #[.int .i64 1, .int .i64 1] 3)).alloc (.cells #[.int .i64 2, .int .i64 3] 3)).alloc (.cells #[.slice (some ⟨w1.heap.size + 1, 0, none⟩) 2 2, .slice (some ⟨w1.heap.size + 1 + 1, 0, none⟩) 2 2] 67) = W2) ∧ Below w1.heap.size w1 W2 ∧
      V2 W2 w1.heap.size (.slice pa 2 ca) (.slice qa 2 fa) ∧ V2 W2 (w1.heap.size + 1 + 1 + 1) (.slice (some ⟨w1.heap.size + 1, 0, none⟩) 2 2) (.slice (some ⟨w1.heap.size + 1 + 1, 0, none⟩) 2 2) ∧ Ints W2 pa [0, 0] ∧ Ints W2 qa [3, 3] ∧ Ints W2 (some ⟨w1.heap.size + 1, 0, none⟩) [1, 1] ∧ Ints W2 (some ⟨w1.heap.size + 1 + 1, 0, none⟩) [2, 3] := by
    have a1 := below_alloc w1 (.cells #[.slice pa 2 ca, .slice qa 2 fa] 67)
    have a2 := below_alloc (w1.alloc (.cells #[.slice pa 2 ca, .slice qa 2 fa] 67)) (.cells #[.int .i64 1, .int .i64 1] 3)
    have a3 := below_alloc ((w1.alloc (.cells #[.slice pa 2 ca, .slice qa 2 fa] 67)).alloc (.cells #[.int .i64 1, .int .i64 1] 3)) (.cells #[.int .i64 2, .int .i64 3] 3)
    have a4 := below_alloc (((w1.alloc (.cells #[.slice pa 2 ca, .slice qa 2 fa] 67)).alloc (.cells #[.int .i64 1, .int .i64 1] 3)).alloc (.cells #[.int .i64 2, .int .i64 3] 3)) (.cells #[.slice (some ⟨w1.heap.size + 1, 0, none⟩) 2 2, .slice (some ⟨w1.heap.size + 1 + 1, 0, none⟩) 2 2] 67)
    have ha := below_t a1 (below_t a2 (below_t a3 a4))
    refine ⟨_, rfl, ha, (((V2.new w1 _ _).keep a2).keep a3).keep a4, ⟨Own.made _ _ [.slice (some ⟨w1.heap.size + 1, 0, none⟩) 2 2, .slice (some ⟨w1.heap.size + 1 + 1, 0, none⟩) 2 2] _ (by simp)⟩, ia.keep ha, ja.keep ha, ?_, ?_⟩
    · exact ((Ints.lit _ _ [1, 1] _ (by simp) (NL.dec (by decide)).i64 (by decide)).keep a3).keep a4
    · exact (Ints.lit _ _ [2, 3] _ (by simp) (NL.dec (by decide)).i64 (by decide)).keep a4
  have hb := below_t hb hb2
  clear hb2
  go_wp2_with fail
  rw [HW2.out]
  clear HW2
  generalize w1.heap.size + 1 + 1 + 1 = gB at B ⊢
  generalize w1.heap.size + 1 + 1 = gb2 at B jb ⊢
  generalize w1.heap.size + 1 = gb1 at B ib ⊢
  generalize w1.heap.size = gA at A ⊢
  refine (w06_minus pa qa _ _ ca fa 2 2 W2 ia ja ib jb).mono ?_
  rintro e3 w3 ⟨⟨gl, cap, bs, rfl, hbl, hnb, hbv, hown⟩, hb3⟩
  obtain ⟨p0, c0, q0, f0, p1, c1, q1, f1, p2, c2, q2, f2, rfl⟩ := three_boxes hbv
  dsimp only at hnb hown hbv
  have L : L3 W2.heap.size w3 gl cap ⟨p0, c0, [0, 0], q0, f0, [1, 3]⟩ ⟨p1, c1, [2, 0], q1, f1, [3, 3]⟩ ⟨p2, c2, [1, 0], q2, f2, [2, 1]⟩ := by
    refine ⟨hown, hnb, ?_⟩
    intro b hb
    simp only [List.mem_cons, List.not_mem_nil, or_false] at hb
    rcases hb with rfl | rfl | rfl
    · exact ⟨⟨NL.dec (xs := [0, 0]) (by decide), NL.dec (xs := [1, 3]) (by decide)⟩, by simp, by simp⟩
    · exact ⟨⟨NL.dec (xs := [2, 0]) (by decide), NL.dec (xs := [3, 3]) (by decide)⟩, by simp, by simp⟩
    · exact ⟨⟨NL.dec (xs := [1, 0]) (by decide), NL.dec (xs := [2, 1]) (by decide)⟩, by simp, by simp⟩
  have IB2 := Lib.hid ib
  have JB2 := Lib.hid jb
  have D : Old W2 w3 := ⟨hb3⟩
  have hgl := hb.size
  clear hnb hbl hbv hown
  have A := A.keep hb3
  have hA0 := A.c0
  have hA1 := A.c1
  have B := B.keep hb3
  have hB0 := B.c0
  have hB1 := B.c1
  have ia := ia.keep hb3
  have ja := ja.keep hb3
  have ib := ib.keep hb3
  have jb := jb.keep hb3
  have hb := below_t hb hb3
  clear hb3
  go_wp2_with fail
  clear hA0 hA1 hB0 hB1
  refine (w06_meet1 pa qa _ _ ca fa 2 2 w3 ia ja ib jb).mono ?_
  rintro e4 w4 ⟨⟨pc, cc, qc, fc, rfl, ic, jc⟩, hb4⟩
  have hba := below_alloc w4 (.cells #[.slice pc 2 cc, .slice qc 2 fc] 67)
  have C := V2.new w4 (.slice pc 2 cc) (.slice qc 2 fc)
  have ic := ic.keep hba
  have jc := jc.keep hba
  have hb4 := below_t hb4 hba
  clear hba A ia ja
  have B := B.keep hb4
  have hB0 := B.c0
  have hB1 := B.c1
  have ib := ib.keep hb4
  have jb := jb.keep hb4
  have L := L.keep hb4
  have D := D.keep hb4
  have hb := below_t hb hb4
  clear hb4
  go_wp2_with fail
  clear hB0 hB1
  refine (Meet_no _ _ _ _ _ _ _ _ [1, 1] [2, 3] [0, 0] [1, 3] (by decide) rfl rfl (by decide) _ ((ib.keep (below_alloc _ _)).keep (below_alloc _ _)) ((jb.keep (below_alloc _ _)).keep (below_alloc _ _)) ((lit2 _ _ 0 0 (by simp) (by decide)).keep (below_alloc _ _)) (lit2 _ _ 1 3 (by simp) (by decide))).mono ?_
  rintro e5 w5 ⟨rfl, hb5⟩
  have hb5 := below_t (below_2 hb5) (below_alloc w5 (.cells #[.slice none 0 0, .slice none 0 0] 67))
  have B := B.keep hb5
  have hB0 := B.c0
  have hB1 := B.c1
  have C := C.keep hb5
  have ib := ib.keep hb5
  have jb := jb.keep hb5
  have L := L.keep hb5
  have ic := ic.keep hb5
  have jc := jc.keep hb5
  have D := D.keep hb5
  have hb := below_t hb hb5
  clear hb5
  go_wp2_with fail
  clear hB0 hB1
  refine (w06_shift1 _ _ 2 2 _ ib jb).mono ?_
  rintro e6 w6 ⟨⟨ps, cs, qs, fs, rfl, is, js⟩, hb6⟩
  have hba := below_alloc w6 (.cells #[.slice ps 2 cs, .slice qs 2 fs] 67)
  have S := V2.new w6 (.slice ps 2 cs) (.slice qs 2 fs)
  have is := is.keep hba
  have hb6 := below_t hb6 hba
  clear hba js
  have B := B.keep hb6
  have hB0 := B.c0
  have hB1 := B.c1
  have C := C.keep hb6
  have ib := ib.keep hb6
  have jb := jb.keep hb6
  have L := L.keep hb6
  have ic := ic.keep hb6
  have jc := jc.keep hb6
  have D := D.keep hb6
  have hb := below_t hb hb6
  clear hb6
  go_wp2_with fail
  clear hB0 hB1
  refine (w06_shift2 _ _ 2 2 _ ib jb).mono ?_
  rintro e7 w7 ⟨rfl, hb7⟩
  have hb7 := below_t hb7 (below_alloc w7 (.cells #[.slice none 0 0, .slice none 0 0] 67))
  have B := B.keep hb7
  have C := C.keep hb7
  have S := S.keep hb7
  have ib := ib.keep hb7
  have jb := jb.keep hb7
  have L := L.keep hb7
  have ic := ic.keep hb7
  have jc := jc.keep hb7
  have is := is.keep hb7
  have D := D.keep hb7
  have hb := below_t hb hb7
  clear hb7
  have l0 := L.cell (i := 0) (u := .slice p0 2 c0) rfl
  have l1 := L.cell (i := 1) (u := .slice q0 2 f0) rfl
  go_wp2_with fail
  clear l0 l1
  refine (BoxSame_any _ _ _ _ _ _ _ _ [0, 0] [1, 3] [0, 0] [1, 3] true (by decide) _ ((L.three.1.1.keep (below_alloc _ _)).keep (below_alloc _ _)) ((L.three.1.2.keep (below_alloc _ _)).keep (below_alloc _ _)) ((lit2 _ _ 0 0 (by simp) (by decide)).keep (below_alloc _ _)) (lit2 _ _ 1 3 (by simp) (by decide))).mono ?_
  rintro e8 w8 ⟨rfl, hb8⟩
  have hb8 := below_2 hb8
  have B := B.keep hb8
  have C := C.keep hb8
  have S := S.keep hb8
  have ib := ib.keep hb8
  have jb := jb.keep hb8
  have L := L.keep hb8
  have ic := ic.keep hb8
  have jc := jc.keep hb8
  have is := is.keep hb8
  have D := D.keep hb8
  have hb := below_t hb hb8
  clear hb8
  have l0 := L.cell (i := 4) (u := .slice p2 2 c2) rfl
  have l1 := L.cell (i := 5) (u := .slice q2 2 f2) rfl
  go_wp2_with fail
  clear l0 l1
  refine (BoxSame_any _ _ _ _ _ _ _ _ [1, 0] [2, 1] [1, 0] [2, 1] true (by decide) _ ((L.three.2.1.keep (below_alloc _ _)).keep (below_alloc _ _)) ((L.three.2.2.keep (below_alloc _ _)).keep (below_alloc _ _)) ((lit2 _ _ 1 0 (by simp) (by decide)).keep (below_alloc _ _)) (lit2 _ _ 2 1 (by simp) (by decide))).mono ?_
  rintro e9 w9 ⟨rfl, hb9⟩
  have hb9 := below_2 hb9
  have B := B.keep hb9
  have hB0 := B.c0
  have hB1 := B.c1
  have C := C.keep hb9
  have hC0 := C.c0
  have hC1 := C.c1
  have S := S.keep hb9
  have ib := ib.keep hb9
  have jb := jb.keep hb9
  have L := L.keep hb9
  have ic := ic.keep hb9
  have jc := jc.keep hb9
  have is := is.keep hb9
  have D := D.keep hb9
  have hb := below_t hb hb9
  clear hb9
  go_wp2_with fail
  clear hB0 hB1 hC0 hC1
  refine (BoxSame_any _ _ _ _ _ _ _ _ [1, 1] [2, 3] [1, 1] [2, 3] true (by decide) _ ic jc ib jb).mono ?_
  rintro e10 w10 ⟨rfl, hb10⟩
  clear C ic jc
  have B := B.keep hb10
  have S := S.keep hb10
  have hS0 := S.c0
  have hS1 := S.c1
  have ib := ib.keep hb10
  have jb := jb.keep hb10
  have L := L.keep hb10
  have is := is.keep hb10
  have D := D.keep hb10
  have hb := below_t hb hb10
  clear hb10
  go_wp2_with fail
  clear hS0 hS1
  refine (RefEqual_is [2, 1] [2, 1] true (by decide) _ _ _ _ _ (is.keep (below_alloc _ _)) (lit2 _ _ 2 1 (by simp) (by decide))).mono ?_
  rintro e11 w11 ⟨rfl, hb11⟩
  have hb11 := below_1 hb11
  clear S is
  have B := B.keep hb11
  have hB0 := B.c0
  have hB1 := B.c1
  have ib := ib.keep hb11
  have jb := jb.keep hb11
  have L := L.keep hb11
  have D := D.keep hb11
  have hb := below_t hb hb11
  clear hb11
  go_wp2_with fail
  clear hB0 hB1
  refine (BoxSize_is _ _ _ _ [1, 1] [2, 3] 2 2 rfl rfl 2 (by decide) (by decide) (fun _ => by decide) _ ib jb).mono ?_
  rintro e12 w12 ⟨rfl, hb12⟩
  have B := B.keep hb12
  have hB0 := B.c0
  have hB1 := B.c1
  have ib := ib.keep hb12
  have jb := jb.keep hb12
  have L := L.keep hb12
  have D := D.keep hb12
  have hb := below_t hb hb12
  clear hb12
  go_wp2_with fail
  clear hB0 hB1
  refine (boxHas_is _ _ _ _ _ _ [1, 1] [2, 3] [1, 2] true (by decide) (by decide) _ (ib.keep (below_alloc _ _)) (jb.keep (below_alloc _ _)) (lit2 _ _ 1 2 (by simp) (by decide))).mono ?_
  rintro e13 w13 ⟨rfl, hb13⟩
  have hb13 := below_1 hb13
  have B := B.keep hb13
  have hB0 := B.c0
  have hB1 := B.c1
  have ib := ib.keep hb13
  have jb := jb.keep hb13
  have L := L.keep hb13
  have D := D.keep hb13
  have hb := below_t hb hb13
  clear hb13
  go_wp2_with fail
  clear hB0 hB1
  refine (boxHas_is _ _ _ _ _ _ [1, 1] [2, 3] [2, 2] false (by decide) (by decide) _ (ib.keep (below_alloc _ _)) (jb.keep (below_alloc _ _)) (lit2 _ _ 2 2 (by simp) (by decide))).mono ?_
  rintro e14 w14 ⟨rfl, hb14⟩
  have hb14 := below_1 hb14
  have B := B.keep hb14
  have hB0 := B.c0
  have hB1 := B.c1
  have ib := ib.keep hb14
  have jb := jb.keep hb14
  have L := L.keep hb14
  have D := D.keep hb14
  have hb := below_t hb hb14
  clear hb14
  go_wp2_with fail
  clear hB0 hB1
  refine (BoxRight_is _ _ _ _ [1, 1] [2, 3] 2 2 rfl rfl true (by decide) _ ib jb).mono ?_
  rintro e15 w15 ⟨rfl, hb15⟩
  have B := B.keep hb15
  have hB0 := B.c0
  have hB1 := B.c1
  have ib := ib.keep hb15
  have jb := jb.keep hb15
  have L := L.keep hb15
  have D := D.keep hb15
  have hb := below_t hb hb15
  clear hb15
  have hA15 := fun o => (below_alloc w15 o).cell (p := ⟨gB, 0, none⟩) B.lt
  have hA16 := fun o => (below_alloc w15 o).cell (p := ⟨gB, 1, none⟩) B.lt
  rw [hB0] at hA15
  rw [hB1] at hA16
  have L2 := Lib.hid ((L.keep (below_alloc w15 (.cells #[.int .i64 3, .int .i64 3] 3))).keep (below_alloc _ (.cells #[.slice (some ⟨gb1, 0, none⟩) 2 2, .slice (some ⟨gb2, 0, none⟩) 2 2] 67)))
  have D2 := Lib.hid ((D.keep (below_alloc w15 (.cells #[.int .i64 3, .int .i64 3] 3))).keep (below_alloc _ (.cells #[.slice (some ⟨gb1, 0, none⟩) 2 2, .slice (some ⟨gb2, 0, none⟩) 2 2] 67)))
  have N33 : Hid (New 0 ((w15.alloc (.cells #[.int .i64 3, .int .i64 3] 3)).alloc (.cells #[.slice (some ⟨gb1, 0, none⟩) 2 2, .slice (some ⟨gb2, 0, none⟩) 2 2] 67)) (some ⟨w15.heap.size, 0, none⟩) 3 ([3, 3].map (.int .i64))) :=
    New.keep' (.inr ⟨_, rfl, Nat.zero_le _, Own.made w15 _ [.int .i64 3, .int .i64 3] _ rfl⟩) (below_alloc _ _)
  have HB : Hid (Below w.heap.size w ((w15.alloc (.cells #[.int .i64 3, .int .i64 3] 3)).alloc (.cells #[.slice (some ⟨gb1, 0, none⟩) 2 2, .slice (some ⟨gb2, 0, none⟩) 2 2] 67))) := below_t hb (below_t (below_alloc _ _) (below_alloc _ _))
  have HG := Lib.hid hgl
  clear hb hgl ib jb L D B hB0 hB1
  go_wp2_with (at_builtin; refine wpList_unguard (by rfl) ?_; refine wpList_append_box rfl (.tmp 110) (.tmp 112) rfl W2.heap.size gl 3 cap (flatB [⟨p0, c0, [0, 0], q0, f0, [1, 3]⟩, ⟨p1, c1, [2, 0], q1, f1, [3, 3]⟩, ⟨p2, c2, [1, 0], q2, f2, [2, 1]⟩]) rfl L2.out.row (w15.heap.size + 1) 1 [.slice (some ⟨gb1, 0, none⟩) 2 2, .slice (some ⟨gb2, 0, none⟩) 2 2] rfl rfl (fun j u hu => (Own.made _ _ [.slice (some ⟨gb1, 0, none⟩) 2 2, .slice (some ⟨gb2, 0, none⟩) 2 2] _ (by simp)).cell hu) (by simp [Value.oneCell']) (by decide) (by have := (row_lt L2.out.row (j := gl) rfl).1; have := L2.out.lt; omega) ?_; intro v16 w16 r16 r17 g16; obtain ⟨g4, cap4, rfl, hc4, hg4, C4⟩ := four_boxes (b0 := ⟨p0, c0, [0, 0], q0, f0, [1, 3]⟩) (b1 := ⟨p1, c1, [2, 0], q1, f1, [3, 3]⟩) (b2 := ⟨p2, c2, [1, 0], q2, f2, [2, 1]⟩) (b3 := ⟨some ⟨gb1, 0, none⟩, 2, [1, 1], some ⟨gb2, 0, none⟩, 2, [2, 3]⟩) r16)
  have hgW : W2.heap.size ≤ gl := (row_lt L2.out.row (j := gl) rfl).1
  have L16 : L3 W2.heap.size w16 gl cap ⟨p0, c0, [0, 0], q0, f0, [1, 3]⟩ ⟨p1, c1, [2, 0], q1, f1, [3, 3]⟩ ⟨p2, c2, [1, 0], q2, f2, [2, 1]⟩ := ⟨r17, L2.out.news.grownT L2.out.row g16, L2.out.small⟩
  have i33 : Ints w16 (some ⟨w15.heap.size, 0, none⟩) [3, 3] := (N33.out.grownT L2.out.row g16).ints (NL.dec (by decide)).i64 (by decide)
  have D16 : Below W2.heap.size W2 w16 := D2.out.below.grown g16 D2.out.below.size (fun k e => by cases e; exact hgW)
  have ib16 := IB2.out.keep D16
  have jb16 := JB2.out.keep D16
  have hb := HB.out.grown g16 HB.out.size (fun k e => by cases e; have := HG.out; omega)
  have hB4 : BoxesI w16 [⟨p0, c0, [0, 0], q0, f0, [1, 3]⟩, ⟨p1, c1, [2, 0], q1, f1, [3, 3]⟩, ⟨p2, c2, [1, 0], q2, f2, [2, 1]⟩, ⟨some ⟨gb1, 0, none⟩, 2, [1, 1], some ⟨gb2, 0, none⟩, 2, [2, 3]⟩] := by
    intro x hx
    have h3 := L16.ints
    simp only [List.mem_cons, List.not_mem_nil, or_false] at hx
    rcases hx with rfl | rfl | rfl | rfl
    · exact h3 _ (by simp)
    · exact h3 _ (by simp)
    · exact h3 _ (by simp)
    · exact ⟨ib16, jb16⟩
  clear r16 r17 g16 L2 D2 N33 HB hA15 hA16
  go_wp2_with fail
  refine (Exact_L _ _ [3, 3] g4 cap4 4 _ [([0, 0], [1, 3]), ([2, 0], [3, 3]), ([1, 0], [2, 1]), ([1, 1], [2, 3])] rfl rfl hc4 (by decide) (by decide) (by decide) (by decide) true (by decide) _ i33 C4 hB4 hg4).mono ?_
  rintro e17 w17 ⟨rfl, hb17⟩
  have L17 := L16.keep hb17
  have hb := below_t hb hb17
  clear C4 hB4 i33 L16 ib16 jb16 D16 hb17
  have L18 := L17.keep (below_alloc w17 (.cells #[.int .i64 3, .int .i64 3] 3))
  go_wp2_with fail
  refine (Exact_L _ _ [3, 3] gl cap 3 _ [([0, 0], [1, 3]), ([2, 0], [3, 3]), ([1, 0], [2, 1])] rfl rfl (owns_cap L18.row) (by decide) (by decide) (by decide) (by decide) false (by decide) _ (lit2 _ _ 3 3 (by simp) (by decide)) L18.cells L18.ints L18.lt).mono ?_
  rintro e18 w18 ⟨rfl, hb18⟩
  have hb := below_t hb (below_1 hb18)
  clear L17 L18 hb18
  go_wp2_with fail
  go_ret
  exact ⟨rfl, hb⟩
end Go.Proofs.Ythkfjdhakbjllaa
