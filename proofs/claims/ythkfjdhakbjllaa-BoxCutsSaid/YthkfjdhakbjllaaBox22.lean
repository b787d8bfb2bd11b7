/- What is left of a box without another one: the state of box.Minus's loop. No condition beyond what each says. -/
import Derived.Test.YthkfjdhakbjllaaBox21
namespace Go.Proofs.Ythkfjdhakbjllaa
open Go.RowKit Go.Shelf
set_option linter.unusedVariables false
set_option linter.unusedSimpArgs false

theorem With_is (p q : Option Addr) (c f : Nat) (lo hi : List Int) (n : Nat) (hn : lo.length = n) (hm : hi.length = n) (a : Nat) (x y : Int) (ha : a < n) (hl : n ≤ 1000000) (w : World) (h : Ints w p lo) (h' : Ints w q hi) :
    Calls Try.prog 98 #[.agg #[.slice p n c, .slice q n f], .int .i64 a, .int .i64 x, .int .i64 y] w fun e w' =>
      (∃ p1 c1 p2 c2, e = .returned (.agg #[.slice p1 n c1, .slice p2 n c2]) ∧ New w.heap.size w' p1 3 ((lo.set a x).map (.int .i64)) ∧ New w.heap.size w' p2 3 ((hi.set a y).map (.int .i64))) ∧ Below w.heap.size w w' := by
  subst hn
  have h1 := With_any p q c f lo hi a x y ha hm.symm hl w h h'
  rw [hm] at h1
  exact h1

theorem New.grownT {B B' n size : Nat} {w w' : World} {p : Option Addr} {v : Value} {vs xs : List Value} (h : New B w p 3 vs) (hr : w.ownsRow B' 67 size v n xs) (hg : w.grownBy w' v.ownBlock) : New B w' p 3 vs := by
  rcases h with h | ⟨g, hp, hB, ho⟩
  · exact .inl h
  · refine .inr ⟨g, hp, hB, ho.grown hg fun e => ?_⟩
    obtain ⟨-, h2⟩ := hr
    rcases h2 with ⟨rfl, -⟩ | ⟨g', cap, cur, rfl, h3, h4, h5⟩
    · cases e
    · cases e
      obtain ⟨r, ho⟩ := ho
      rw [ho] at h4
      simp at h4
/-- a row that came in, or a new one -/
def RowIn (w wr : World) (p : Option Addr) (xs : List Int) : Prop := Ints w p xs ∨ New w.heap.size wr p 3 (xs.map (.int .i64))
theorem RowIn.ints {w wr : World} {p : Option Addr} {xs : List Int} (h : RowIn w wr p xs) (hb : Below w.heap.size w wr) (hx : ∀ x ∈ xs, I64 x) (hl : xs.length ≤ 1000000) : Ints wr p xs := by
  rcases h with h | h
  · exact h.keep hb
  · exact h.ints hx (by omega)
theorem RowIn.keep {w a b : World} {p : Option Addr} {xs : List Int} (h : RowIn w a p xs) (hb : Below a.heap.size a b) : RowIn w b p xs := by
  rcases h with h | h
  · exact .inl h
  · exact .inr (h.keep' hb)
theorem RowIn.otherB {w a : World} {p : Option Addr} {xs : List Int} {g i : Nat} {us : List Value} (h : RowIn w a p xs) (ho : Own a g 67 us) (v : Value) : RowIn w (a.setCell ⟨g, i, none⟩ v) p xs := by
  rcases h with h | h
  · exact .inl h
  · exact .inr (h.otherB ho v)
theorem RowIn.grownT {B' n size : Nat} {w a b : World} {p : Option Addr} {v : Value} {xs : List Int} {ys : List Value} (h : RowIn w a p xs) (hr : a.ownsRow B' 67 size v n ys) (hg : a.grownBy b v.ownBlock) : RowIn w b p xs := by
  rcases h with h | h
  · exact .inl h
  · exact .inr (h.grownT hr hg)

/-- a box in memory -/
structure BoxV where
  p : Option Addr
  c : Nat
  lo : List Int
  q : Option Addr
  f : Nat
  hi : List Int
def BoxV.vals (b : BoxV) : List Value := [.slice b.p b.lo.length b.c, .slice b.q b.hi.length b.f]
def BoxV.bx (b : BoxV) : Bx := (b.lo, b.hi)
def flatB (bs : List BoxV) : List Value := bs.flatMap BoxV.vals
theorem flatB_len {bs : List BoxV} : (flatB bs).length = bs.length * 2 := by
  unfold flatB
  induction bs with
  | nil => rfl
  | cons b bs ih =>
    rw [List.flatMap_cons, List.length_append, ih]
    simp [BoxV.vals]
    omega
theorem flatB_one {bs : List BoxV} : ∀ u ∈ flatB bs, u.oneCell' = true := by
  intro u hu
  unfold flatB at hu
  obtain ⟨b, -, hb⟩ := List.mem_flatMap.1 hu
  simp only [BoxV.vals, List.mem_cons, List.not_mem_nil, or_false] at hb
  rcases hb with rfl | rfl <;> rfl
/-- the rows of boxes are new -/
def NewsB (B : Nat) (w : World) (bs : List BoxV) : Prop := ∀ b ∈ bs, New B w b.p 3 (b.lo.map (.int .i64)) ∧ New B w b.q 3 (b.hi.map (.int .i64))
theorem NewsB.keep {B : Nat} {a b : World} {bs : List BoxV} (h : NewsB B a bs) (hb : Below a.heap.size a b) : NewsB B b bs := fun x hx => ⟨(h x hx).1.keep' hb, (h x hx).2.keep' hb⟩
theorem NewsB.otherB {B g i : Nat} {a : World} {bs : List BoxV} {us : List Value} (h : NewsB B a bs) (ho : Own a g 67 us) (v : Value) : NewsB B (a.setCell ⟨g, i, none⟩ v) bs := fun x hx => ⟨(h x hx).1.otherB ho v, (h x hx).2.otherB ho v⟩
theorem NewsB.grownT {B B' n size : Nat} {a b : World} {bs : List BoxV} {v : Value} {ys : List Value} (h : NewsB B a bs) (hr : a.ownsRow B' 67 size v n ys) (hg : a.grownBy b v.ownBlock) : NewsB B b bs := fun x hx => ⟨(h x hx).1.grownT hr hg, (h x hx).2.grownT hr hg⟩
theorem NewsB.append {B : Nat} {a : World} {bs cs : List BoxV} (h : NewsB B a bs) (k : NewsB B a cs) : NewsB B a (bs ++ cs) := fun x hx => by
  rcases List.mem_append.1 hx with hx | hx
  · exact h x hx
  · exact k x hx

/-- the loop's state: out has the parts of the first j axes, rest is cut to the first k axes -/
structure MinSt (w : World) (B n : Nat) (A1 A2 : Value) (g5 g8 : Nat) (pc qc : Option Addr) (cc fc : Nat) (alo ahi clo chi : List Int) (j k : Nat) (v : Value) (bs : List BoxV) (wr : World) : Prop where
  a : Own wr w.heap.size 67 [A1, A2]
  cv : Own wr g5 67 [.slice pc n cc, .slice qc n fc]
  cl : New w.heap.size wr pc 3 (clo.map (.int .i64))
  ch : New w.heap.size wr qc 3 (chi.map (.int .i64))
  r : ∃ pr cr qr fr, Own wr g8 67 [.slice pr n cr, .slice qr n fr] ∧ RowIn w wr pr (clo.take k ++ alo.drop k) ∧ RowIn w wr qr (chi.take k ++ ahi.drop k)
  out : wr.ownsRow B 67 2 v bs.length (flatB bs)
  rows : NewsB w.heap.size wr bs
  val : bs.map BoxV.bx = cutsX alo ahi clo chi j
  below : Below w.heap.size w wr
  size : B ≤ wr.heap.size
  blocks : w.heap.size + 2 ≤ g5 ∧ g5 < g8 ∧ g8 < B
theorem MinSt.keep {w : World} {B n : Nat} {A1 A2 : Value} {g5 g8 : Nat} {pc qc : Option Addr} {cc fc : Nat} {alo ahi clo chi : List Int} {j k : Nat} {v : Value} {bs : List BoxV} {a z : World} (h : MinSt w B n A1 A2 g5 g8 pc qc cc fc alo ahi clo chi j k v bs a) (hb : Below a.heap.size a z) : MinSt w B n A1 A2 g5 g8 pc qc cc fc alo ahi clo chi j k v bs z := by
  obtain ⟨pr, cr, qr, fr, r1, r2, r3⟩ := h.r
  exact ⟨h.a.keep hb h.a.lt, h.cv.keep hb h.cv.lt, h.cl.keep' hb, h.ch.keep' hb, ⟨pr, cr, qr, fr, r1.keep hb r1.lt, r2.keep hb, r3.keep hb⟩, row_keep h.out hb, h.rows.keep hb, h.val, below_t h.below hb, Nat.le_trans h.size hb.size, h.blocks⟩
/-- what lies in a block behind all others may change -/
theorem MinSt.last {w : World} {B n : Nat} {A1 A2 : Value} {g5 g8 : Nat} {pc qc : Option Addr} {cc fc : Nat} {alo ahi clo chi : List Int} {j k : Nat} {v : Value} {bs : List BoxV} {a z : World} {o : Obj} (h : MinSt w B n A1 A2 g5 g8 pc qc cc fc alo ahi clo chi j k v bs a) (hb : Below a.heap.size (a.alloc o) z) : MinSt w B n A1 A2 g5 g8 pc qc cc fc alo ahi clo chi j k v bs z :=
  h.keep ((below_alloc a o).trans hb)
/-- out grows -/
theorem MinSt.app {w : World} {B n : Nat} {A1 A2 : Value} {g5 g8 : Nat} {pc qc : Option Addr} {cc fc : Nat} {alo ahi clo chi : List Int} {j k : Nat} {v v' : Value} {bs cs : List BoxV} {a z : World} (h : MinSt w B n A1 A2 g5 g8 pc qc cc fc alo ahi clo chi j k v bs a) (hg : a.grownBy z v.ownBlock)
    (hr : z.ownsRow B 67 2 v' (bs.length + cs.length) (flatB bs ++ flatB cs)) (hc : NewsB w.heap.size a cs) (hv : (bs ++ cs).map BoxV.bx = cutsX alo ahi clo chi (j + 1)) : MinSt w B n A1 A2 g5 g8 pc qc cc fc alo ahi clo chi (j + 1) k v' (bs ++ cs) z := by
  obtain ⟨pr, cr, qr, fr, r1, r2, r3⟩ := h.r
  have hlt : ∀ g, g < B → some g ≠ v.ownBlock := fun g hgB e => by have := (row_lt h.out e.symm).1; omega
  have hbl := h.blocks
  refine ⟨h.a.grown hg (hlt _ (by omega)), h.cv.grown hg (hlt _ (by omega)), h.cl.grownT h.out hg, h.ch.grownT h.out hg, ⟨pr, cr, qr, fr, r1.grown hg (hlt _ (by omega)), r2.grownT h.out hg, r3.grownT h.out hg⟩, ?_, ?_, hv, ?_, ?_, hbl⟩
  · rw [List.length_append]
    unfold flatB at hr ⊢
    rw [List.flatMap_append]
    exact hr
  · exact (h.rows.grownT h.out hg).append (hc.grownT h.out hg)
  · exact h.below.grown hg h.below.size fun g e => by have := (row_lt h.out e).1; omega
  · have := hg.size
    have := h.size
    omega
/-- rest is cut once more -/
theorem MinSt.cut {w : World} {B n : Nat} {A1 A2 : Value} {g5 g8 : Nat} {pc qc : Option Addr} {cc fc : Nat} {alo ahi clo chi : List Int} {j k : Nat} {v : Value} {bs : List BoxV} {a z : World} {pr qr : Option Addr} {cr fr : Nat} (h : MinSt w B n A1 A2 g5 g8 pc qc cc fc alo ahi clo chi j k v bs a)
    (hz : z = (a.setCell ⟨g8, 0, none⟩ (.slice pr n cr)).setCell ⟨g8, 1, none⟩ (.slice qr n fr)) (h1 : RowIn w a pr (clo.take (k + 1) ++ alo.drop (k + 1))) (h2 : RowIn w a qr (chi.take (k + 1) ++ ahi.drop (k + 1))) : MinSt w B n A1 A2 g5 g8 pc qc cc fc alo ahi clo chi j (k + 1) v bs z := by
  subst hz
  obtain ⟨pr0, cr0, qr0, fr0, r1, r2, r3⟩ := h.r
  have hbl := h.blocks
  have o1 := r1.set (i := 0) (by simp) (.slice pr n cr)
  have hne : ∀ g, g ≠ g8 → ∀ us, Own a g 67 us → Own ((a.setCell ⟨g8, 0, none⟩ (.slice pr n cr)).setCell ⟨g8, 1, none⟩ (.slice qr n fr)) g 67 us := fun g hg us ho => (ho.other (a := ⟨g8, 0, none⟩) (fun e => hg e.symm) _).other (a := ⟨g8, 1, none⟩) (fun e => hg e.symm) _
  refine ⟨hne _ (by omega) _ h.a, hne _ (by omega) _ h.cv, (h.cl.otherB r1 _).otherB o1 _, (h.ch.otherB r1 _).otherB o1 _, ⟨pr, cr, qr, fr, o1.set (i := 1) (by simp) _, (h1.otherB r1 _).otherB o1 _, (h2.otherB r1 _).otherB o1 _⟩, ?_, (h.rows.otherB r1 _).otherB o1 _, h.val, below_set (below_set h.below (by omega) 0 _) (by omega) 1 _, by simpa using h.size, hbl⟩
  refine row_block' h.out fun g e => ?_
  have hgB := (row_lt h.out e).1
  exact (Below.heap_setCell _ _ _ _ (by show g ≠ g8; omega)).trans (Below.heap_setCell _ _ _ _ (by show g ≠ g8; omega))
/-- a fact on old blocks, where only blocks from n on may change -/
def KeepsB (n : Nat) (S : World → Prop) : Prop := ∀ (z z' : World), S z → Below n z z' → S z'
theorem KeepsB.and {n : Nat} {S T : World → Prop} (h : KeepsB n S) (k : KeepsB n T) : KeepsB n fun w => S w ∧ T w := fun z z' ⟨a, b⟩ hb => ⟨h z z' a hb, k z z' b hb⟩
theorem keepsB_cell {n b : Nat} (o : Nat) (u : Value) (hb : b < n) : KeepsB n fun w => b < w.heap.size ∧ w.cell? ⟨b, o, none⟩ = some u :=
  fun z z' ⟨h1, h2⟩ hb' => ⟨Nat.lt_of_lt_of_le h1 hb'.size, (hb'.cell (p := ⟨b, o, none⟩) hb).trans h2⟩
theorem keepsB_below {n : Nat} {w0 : World} (h : w0.heap.size ≤ n) : KeepsB n fun w => Below w0.heap.size w0 w := fun z z' h1 h2 => h1.trans (h2.mono h)
/-- the parts of one axis, as boxes in memory -/
theorem two_cut {alo ahi clo chi : List Int} {k : Nat} {b0 b1 : BoxV} {d0 d1 : Bool} (e0 : b0.bx = cutX alo ahi clo chi k false) (e1 : b1.bx = cutX alo ahi clo chi k true) (h0 : fullB b0.bx = !d0) (h1 : fullB b1.bx = !d1) :
    ((if d0 then [] else [b0]) ++ if d1 then [] else [b1]).map BoxV.bx = [cutX alo ahi clo chi k false, cutX alo ahi clo chi k true].filter fullB := by
  rw [e0] at h0
  rw [e1] at h1
  cases d0 <;> cases d1 <;> simp [h0, h1, e0, e1]
theorem cutsX_next {alo ahi clo chi : List Int} {k : Nat} : cutsX alo ahi clo chi (k + 1) = cutsX alo ahi clo chi k ++ [cutX alo ahi clo chi k false, cutX alo ahi clo chi k true].filter fullB := by
  unfold cutsX
  rw [List.range_succ, List.flatMap_append]
  simp
theorem set_cut {c a : List Int} {k : Nat} {x : Int} (hl : c.length = a.length) (hk : k < a.length) : (c.take k ++ a.drop k).set k x = c.take k ++ x :: a.drop (k + 1) := by
  have hlk : (c.take k).length = k := by rw [List.length_take]; omega
  rw [List.set_append_right _ _ (by omega), hlk, Nat.sub_self, drop_nth hk, List.set_cons_zero]
theorem full_count {lo hi : List Int} {d : Bool} (h : (countX lo hi == 0) = d) : fullB (lo, hi) = !d := by
  unfold fullB
  cases d with
  | true =>
    have := count_zero.1 (by simpa using h)
    simpa using this
  | false =>
    have h2 : ¬ countX lo hi = 0 := by simpa using h
    have h3 : FullX lo hi := Classical.byContradiction fun hf => h2 (count_zero.2 hf)
    simpa using h3
end Go.Proofs.Ythkfjdhakbjllaa
