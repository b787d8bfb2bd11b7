/- A piece in new memory: merge.copied. No condition beyond what each says. -/
import Derived.Test.YtgbeokfpegdgdaaMg6
import Derived.Deep.DeepCutAuto
namespace Go.Proofs.Ytgbeokfpegdgdaa
open Go.RowKit Go.Shelf
set_option linter.unusedVariables false
set_option linter.unusedSimpArgs false

theorem Own.ne {w : World} {g k : Nat} {e e' : TypeId} {us vs : List Value} (h : Own w g e us) (h' : Own w k e' vs) (he : e ≠ e') : g ≠ k := by
  rintro rfl
  obtain ⟨_, o1⟩ := h
  obtain ⟨_, o2⟩ := h'
  rw [o1] at o2
  simp only [Option.some.injEq, Obj.cells.injEq] at o2
  exact he o2.2.1
theorem New.otherT {B g i : Nat} {w : World} {p : Option Addr} {e e' : TypeId} {vs us : List Value} (h : New B w p e vs) (ho : Own w g e' us) (he : e' ≠ e) (v : Value) : New B (w.setCell ⟨g, i, none⟩ v) p e vs := by
  rcases h with h | ⟨g', hp, hB, h⟩
  · exact .inl h
  · exact .inr ⟨g', hp, hB, h.other (ho.ne h he) _⟩
theorem New.grownE {B B' n size : Nat} {w w' : World} {p : Option Addr} {e e' : TypeId} {v : Value} {vs xs : List Value} (h : New B w p e vs) (hr : w.ownsRow B' e' size v n xs) (he : e' ≠ e) (hg : w.grownBy w' v.ownBlock) : New B w' p e vs := by
  rcases h with h | ⟨g, hp, hB, ho⟩
  · exact .inl h
  · refine .inr ⟨g, hp, hB, ho.grown hg fun e1 => ?_⟩
    obtain ⟨-, h2⟩ := hr
    rcases h2 with ⟨rfl, -⟩ | ⟨g', cap, cur, rfl, h3, h4, h5⟩
    · cases e1
    · cases e1
      obtain ⟨r, ho⟩ := ho
      rw [ho] at h4
      simp only [Option.some.injEq, Obj.cells.injEq] at h4
      exact he h4.2.1.symm
theorem below_set {B : Nat} {w w' : World} (h : Below B w w') {g : Nat} (hg : B ≤ g) (i : Nat) (v : Value) : Below B w (w'.setCell ⟨g, i, none⟩ v) := h.setCell (p := ⟨g, i, none⟩) hg v
theorem New.out {B : Nat} {w : World} {p : Option Addr} {e : TypeId} {vs : List Value} (h : New B w p e vs) (hv : vs ≠ []) : ∃ g, p = some ⟨g, 0, none⟩ ∧ B ≤ g ∧ Own w g e vs := by
  rcases h with h | h
  · exact (hv h).elim
  · exact h
theorem Clone_is (a : Option Addr) (c : Nat) (xs : List Int) (n : Nat) (w : World) (hn : xs.length = n) (h : Ints w a xs) (hl : n ≤ 1000000) :
    Calls Try.prog 20 #[.slice a n c] w fun e w' => (∃ p c', e = .returned (.slice p n c') ∧ New w.heap.size w' p 3 (xs.map (.int .i64))) ∧ Below w.heap.size w w' := by
  subst hn
  exact Clone_any a c xs w h hl

/-- a piece's nine cells -/
def PV.vals (x : PV) : List Value := [.slice x.p x.lo.length x.c, .slice x.q x.hi.length x.f, .int .i64 x.k, .int .i64 x.b, .int .i64 x.e, .slice x.g x.s.length x.d, .int .i64 x.st, .int .i64 x.sp, .int .i64 x.md]
/-- the rows of a piece are new -/
structure PVN (B : Nat) (w : World) (x : PV) : Prop where
  lo : New B w x.p 3 (x.lo.map (.int .i64))
  hi : New B w x.q 3 (x.hi.map (.int .i64))
  s : New B w x.g 3 (x.s.map (.int .i64))
theorem PVN.keep {B : Nat} {a b : World} {x : PV} (h : PVN B a x) (hb : Below a.heap.size a b) : PVN B b x := ⟨h.lo.keep' hb, h.hi.keep' hb, h.s.keep' hb⟩
theorem PVN.mono {B B' : Nat} {a : World} {x : PV} (h : PVN B a x) (hB : B' ≤ B) : PVN B' a x := ⟨h.lo.mono hB, h.hi.mono hB, h.s.mono hB⟩
theorem PVN.otherT {B g i : Nat} {w : World} {e : TypeId} {us : List Value} {x : PV} (h : PVN B w x) (ho : Own w g e us) (he : e ≠ 3) (v : Value) : PVN B (w.setCell ⟨g, i, none⟩ v) x := ⟨h.lo.otherT ho he v, h.hi.otherT ho he v, h.s.otherT ho he v⟩
theorem PVN.grownE {B B' n size : Nat} {w w' : World} {e : TypeId} {v : Value} {xs : List Value} {x : PV} (h : PVN B w x) (hr : w.ownsRow B' e size v n xs) (he : e ≠ 3) (hg : w.grownBy w' v.ownBlock) : PVN B w' x := ⟨h.lo.grownE hr he hg, h.hi.grownE hr he hg, h.s.grownE hr he hg⟩
/-- the numbers of a piece are small, its rows short -/
structure PVS (x : PV) : Prop where
  lo : ∀ u ∈ x.lo, I64 u
  hi : ∀ u ∈ x.hi, I64 u
  s : ∀ u ∈ x.s, I64 u
  ll : x.lo.length ≤ 1000000
  lh : x.hi.length ≤ 1000000
  ls : x.s.length ≤ 1000000
theorem PVN.ints {B : Nat} {w : World} {x : PV} (h : PVN B w x) (k : PVS x) : PVI w x := ⟨h.lo.ints k.lo (by have := k.ll; omega), h.hi.ints k.hi (by have := k.lh; omega), h.s.ints k.s (by have := k.ls; omega)⟩
/-- two pieces read alike -/
structure Twin (x y : PV) : Prop where
  lo : y.lo = x.lo
  hi : y.hi = x.hi
  acc : OneAcc x y
theorem Twin.rfl (x : PV) : Twin x x := ⟨.refl _, .refl _, OneAcc.rfl x⟩
theorem Twin.small {x y : PV} (h : Twin x y) (k : PVS x) : PVS y := by
  obtain ⟨h1, h2, h3⟩ := h
  have h4 := h3.s
  exact ⟨h1 ▸ k.lo, h2 ▸ k.hi, h4 ▸ k.s, h1 ▸ k.ll, h2 ▸ k.lh, h4 ▸ k.ls⟩

/-- nine cells are written -/
def set9 (w : World) (g : Nat) (x : PV) : World :=
  ((((((((w.setCell ⟨g, 0, none⟩ (.slice x.p x.lo.length x.c)).setCell ⟨g, 1, none⟩ (.slice x.q x.hi.length x.f)).setCell ⟨g, 2, none⟩ (.int .i64 x.k)).setCell ⟨g, 3, none⟩ (.int .i64 x.b)).setCell ⟨g, 4, none⟩ (.int .i64 x.e)).setCell ⟨g, 5, none⟩ (.slice x.g x.s.length x.d)).setCell ⟨g, 6, none⟩ (.int .i64 x.st)).setCell ⟨g, 7, none⟩ (.int .i64 x.sp)).setCell ⟨g, 8, none⟩ (.int .i64 x.md)
theorem set9_own {w : World} {g : Nat} {e : TypeId} {us : List Value} {x : PV} (h : Own w g e us) (hl : us.length = 9) : Own (set9 w g x) g e [.slice x.p x.lo.length x.c, .slice x.q x.hi.length x.f, .int .i64 x.k, .int .i64 x.b, .int .i64 x.e, .slice x.g x.s.length x.d, .int .i64 x.st, .int .i64 x.sp, .int .i64 x.md] := by
  match us, hl with
  | [a0, a1, a2, a3, a4, a5, a6, a7, a8], _ =>
    exact ((((((((h.set (i := 0) (by simp) _).set (i := 1) (by simp) _).set (i := 2) (by simp) _).set (i := 3) (by simp) _).set (i := 4) (by simp) _).set (i := 5) (by simp) _).set (i := 6) (by simp) _).set (i := 7) (by simp) _).set (i := 8) (by simp) _
theorem set9_other {w : World} {g k : Nat} {e : TypeId} {us : List Value} {x : PV} (h : Own w k e us) (hg : g ≠ k) : Own (set9 w g x) k e us :=
  ((((((((h.other (a := ⟨g, 0, none⟩) hg _).other (a := ⟨g, 1, none⟩) hg _).other (a := ⟨g, 2, none⟩) hg _).other (a := ⟨g, 3, none⟩) hg _).other (a := ⟨g, 4, none⟩) hg _).other (a := ⟨g, 5, none⟩) hg _).other (a := ⟨g, 6, none⟩) hg _).other (a := ⟨g, 7, none⟩) hg _).other (a := ⟨g, 8, none⟩) hg _
theorem set9_new {w : World} {B g : Nat} {p : Option Addr} {e e' : TypeId} {us vs : List Value} {x : PV} (h : New B w p e vs) (ho : Own w g e' us) (he : e' ≠ e) : New B (set9 w g x) p e vs := by
  rcases h with h | ⟨k, hp, hB, h⟩
  · exact .inl h
  · exact .inr ⟨k, hp, hB, set9_other h (ho.ne h he)⟩
theorem set9_pvn {w : World} {B g : Nat} {e' : TypeId} {us : List Value} {x y : PV} (h : PVN B w y) (ho : Own w g e' us) (he : e' ≠ 3) : PVN B (set9 w g x) y := ⟨set9_new h.lo ho he, set9_new h.hi ho he, set9_new h.s ho he⟩
theorem set9_below {w w' : World} {B g : Nat} {x : PV} (h : Below B w w') (hg : B ≤ g) : Below B w (set9 w' g x) :=
  below_set (below_set (below_set (below_set (below_set (below_set (below_set (below_set (below_set h hg 0 _) hg 1 _) hg 2 _) hg 3 _) hg 4 _) hg 5 _) hg 6 _) hg 7 _) hg 8 _

/-- under way in merge.copied: the box is new, the access is the old one -/
structure CopSt (w : World) (x : PV) (p : Option Addr) (c : Nat) (q : Option Addr) (f : Nat) (z : World) : Prop where
  own : Own z w.heap.size 36 [.slice p x.lo.length c, .slice q x.hi.length f, .int .i64 x.k, .int .i64 x.b, .int .i64 x.e, .slice x.g x.s.length x.d, .int .i64 x.st, .int .i64 x.sp, .int .i64 x.md]
  res : Own z (w.heap.size + 1) 36 [.slice none 0 0, .slice none 0 0, .int .i64 0, .int .i64 0, .int .i64 0, .slice none 0 0, .int .i64 0, .int .i64 0, .int .i64 0]
  lo : New w.heap.size z p 3 (x.lo.map (.int .i64))
  hi : New w.heap.size z q 3 (x.hi.map (.int .i64))
  below : Below w.heap.size w z
theorem cop_set {w z : World} {x : PV} {u v : Value} {p q : Option Addr} {c f : Nat} (ho : Own z w.heap.size 36 [u, v, .int .i64 x.k, .int .i64 x.b, .int .i64 x.e, .slice x.g x.s.length x.d, .int .i64 x.st, .int .i64 x.sp, .int .i64 x.md])
    (hr : Own z (w.heap.size + 1) 36 [.slice none 0 0, .slice none 0 0, .int .i64 0, .int .i64 0, .int .i64 0, .slice none 0 0, .int .i64 0, .int .i64 0, .int .i64 0]) (h1 : New w.heap.size z p 3 (x.lo.map (.int .i64))) (h2 : New w.heap.size z q 3 (x.hi.map (.int .i64))) (hb : Below w.heap.size w z) :
    CopSt w x p c q f ((z.setCell ⟨w.heap.size, 0, none⟩ (.slice p x.lo.length c)).setCell ⟨w.heap.size, 1, none⟩ (.slice q x.hi.length f)) := by
  have o1 := ho.set (i := 0) (by simp) (.slice p x.lo.length c)
  have o2 := o1.set (i := 1) (by simp) (.slice q x.hi.length f)
  refine ⟨o2, ?_, (h1.otherT ho (by decide) _).otherT o1 (by decide) _, (h2.otherT ho (by decide) _).otherT o1 (by decide) _, below_set (below_set hb (Nat.le_refl _) 0 _) (Nat.le_refl _) 1 _⟩
  exact (hr.other (a := ⟨w.heap.size, 0, none⟩) (by show w.heap.size ≠ _; omega) _).other (a := ⟨w.heap.size, 1, none⟩) (by show w.heap.size ≠ _; omega) _

def CopS (w : World) (x : PV) (z : World) : Prop :=
  (∃ u v, Own z w.heap.size 36 [u, v, .int .i64 x.k, .int .i64 x.b, .int .i64 x.e, .slice x.g x.s.length x.d, .int .i64 x.st, .int .i64 x.sp, .int .i64 x.md]) ∧ Own z (w.heap.size + 1) 36 [.slice none 0 0, .slice none 0 0, .int .i64 0, .int .i64 0, .int .i64 0, .slice none 0 0, .int .i64 0, .int .i64 0, .int .i64 0] ∧ Below w.heap.size w z
theorem CopS.keep {w : World} {x : PV} : Keeps (CopS w x) := by
  rintro a b ⟨⟨u, v, h1⟩, h2, h3⟩ hb
  exact ⟨⟨u, v, h1.keep hb h1.lt⟩, h2.keep hb h2.lt, below_t h3 hb⟩
theorem CopS.set {w z : World} {x : PV} (h : CopS w x z) (u v : Value) : CopS w x ((z.setCell ⟨w.heap.size, 0, none⟩ u).setCell ⟨w.heap.size, 1, none⟩ v) := by
  obtain ⟨⟨u0, v0, h1⟩, h2, h3⟩ := h
  exact ⟨⟨u, v, (h1.set (i := 0) (by simp) u).set (i := 1) (by simp) v⟩, (h2.other (a := ⟨w.heap.size, 0, none⟩) (by show w.heap.size ≠ _; omega) _).other (a := ⟨w.heap.size, 1, none⟩) (by show w.heap.size ≠ _; omega) _, below_set (below_set h3 (Nat.le_refl _) 0 _) (Nat.le_refl _) 1 _⟩

set_option maxRecDepth 100000 in
set_option maxHeartbeats 4000000 in
theorem copied_any (x : PV) (hs : PVS x) (w : World) (hx : PVI w x) :
    Calls Try.prog 17 #[.agg #[.slice x.p x.lo.length x.c, .slice x.q x.hi.length x.f, .int .i64 x.k, .int .i64 x.b, .int .i64 x.e, .slice x.g x.s.length x.d, .int .i64 x.st, .int .i64 x.sp, .int .i64 x.md]] w fun e w' => (∃ y : PV, e = .returned (.agg #[.slice y.p y.lo.length y.c, .slice y.q y.hi.length y.f, .int .i64 y.k, .int .i64 y.b, .int .i64 y.e, .slice y.g y.s.length y.d, .int .i64 y.st, .int .i64 y.sp, .int .i64 y.md]) ∧ PVN w.heap.size w' y ∧ Twin x y) ∧ Below w.heap.size w w' := by
  have l1 := hs.ll
  have l2 := hs.lh
  have l3 := hs.ls
  obtain ⟨W, hW, hz, hbW, OA, OR⟩ : ∃ W, (w.alloc (.cells #[.slice x.p x.lo.length x.c, .slice x.q x.hi.length x.f, .int .i64 x.k, .int .i64 x.b, .int .i64 x.e, .slice x.g x.s.length x.d, .int .i64 x.st, .int .i64 x.sp, .int .i64 x.md] 36)).alloc (.cells #[.slice none 0 0, .slice none 0 0, .int .i64 0, .int .i64 0, .int .i64 0, .slice none 0 0, .int .i64 0, .int .i64 0, .int .i64 0] 36) = W ∧ W.heap.size = w.heap.size + 2 ∧ Below w.heap.size w W ∧ Own W w.heap.size 36 [.slice x.p x.lo.length x.c, .slice x.q x.hi.length x.f, .int .i64 x.k, .int .i64 x.b, .int .i64 x.e, .slice x.g x.s.length x.d, .int .i64 x.st, .int .i64 x.sp, .int .i64 x.md] ∧ Own W (w.heap.size + 1) 36 [.slice none 0 0, .slice none 0 0, .int .i64 0, .int .i64 0, .int .i64 0, .slice none 0 0, .int .i64 0, .int .i64 0, .int .i64 0] := by
    have OA := Own.made w w.heap.size [.slice x.p x.lo.length x.c, .slice x.q x.hi.length x.f, .int .i64 x.k, .int .i64 x.b, .int .i64 x.e, .slice x.g x.s.length x.d, .int .i64 x.st, .int .i64 x.sp, .int .i64 x.md] 36 rfl
    have b2 := below_alloc (w.alloc (.cells #[.slice x.p x.lo.length x.c, .slice x.q x.hi.length x.f, .int .i64 x.k, .int .i64 x.b, .int .i64 x.e, .slice x.g x.s.length x.d, .int .i64 x.st, .int .i64 x.sp, .int .i64 x.md] 36)) (.cells #[.slice none 0 0, .slice none 0 0, .int .i64 0, .int .i64 0, .int .i64 0, .slice none 0 0, .int .i64 0, .int .i64 0, .int .i64 0] 36)
    exact ⟨_, rfl, by simp, below_t (below_alloc _ _) b2, OA.keep b2 OA.lt, Own.made _ (w.heap.size + 1) [.slice none 0 0, .slice none 0 0, .int .i64 0, .int .i64 0, .int .i64 0, .slice none 0 0, .int .i64 0, .int .i64 0, .int .i64 0] _ (by simp)⟩
  have HW := Lib.hid hW
  have q0 := OA.cell (i := 0) rfl
  have q1 := OA.cell (i := 1) rfl
  have hlt := OA.lt
  have hS : CopS w x W := ⟨⟨_, _, OA⟩, OR, hbW⟩
  have hWw := Nat.le_of_eq hz.symm
  have ZL := Lib.hid hz
  clear hW hz OA OR hbW
  go_enter Try.func17, Try.ntmps17
  go_wp2_with fail
  rw [HW.out]
  clear HW
  go_upto_region 1 with fail
  go_cut [] (fun wx => ∃ wz p c q f, wz = wx ∧ Hid (CopSt w x p c q f wz))
  case first =>
    refine wp_region_noPanic ?_
    refine wp_region_held_drew (S := (CopS w x)) (by kernel_rfl) ?_ (fun hHeld => ?_)
    · (try dsimp only); first | exact CopS.keep _ _ (by first | exact hHeld | exact hS) (by first | assumption | (go_grown; done) | (refine from_drew ?_; go_grown; done)) | exact CopS.set hHeld _ _
    refine takeH 0 (some 3) (v := ?_) rfl rfl (by kernel_rfl) (by kernel_rfl) (by kernel_rfl) (by rfl) ?_ (by exact hHeld) ?_
    rotate_left
    · intro w hSw; (try dsimp only at hSw); go_simp; try (with_reducible rfl)
    try simp only [Act.put, List.setIfInBounds_toArray, List.set_cons_zero, List.set_cons_succ]
    refine takeH 1 (some 4) (v := ?_) rfl rfl (by kernel_rfl) (by kernel_rfl) (by kernel_rfl) (by rfl) ?_ (by exact hHeld) ?_
    rotate_left
    · intro w hSw; (try dsimp only at hSw); go_simp; try (with_reducible rfl)
    try simp only [Act.put, List.setIfInBounds_toArray, List.set_cons_zero, List.set_cons_succ]
    refine takeH 4 (some 7) (v := ?_) rfl rfl (by kernel_rfl) (by kernel_rfl) (by kernel_rfl) (by rfl) ?_ (by exact hHeld) ?_
    rotate_left
    · intro w hSw; (try dsimp only at hSw); go_simp; try (with_reducible rfl)
    try simp only [Act.put, List.setIfInBounds_toArray, List.set_cons_zero, List.set_cons_succ]
    refine takeH 5 (some 8) (v := ?_) rfl rfl (by kernel_rfl) (by kernel_rfl) (by kernel_rfl) (by rfl) ?_ (by exact hHeld) ?_
    rotate_left
    · intro w hSw; (try dsimp only at hSw); go_simp; try (with_reducible rfl)
    try simp only [Act.put, List.setIfInBounds_toArray, List.set_cons_zero, List.set_cons_succ]
    refine wpAnyH_ready (rs := [2, 6]) (by kernel_rfl) (by simp) ?_
    refine stepH 2 rfl (by rfl) (fun K hK => ?_) ?_
    · go_simp
      refine hK.out _ _ ?_ (fun hNew => ?_)
      · (try dsimp only); first | exact CopS.keep _ _ (by first | exact hHeld | exact hS) (by first | assumption | (go_grown; done) | (refine from_drew ?_; go_grown; done)) | exact CopS.set hHeld _ _
      clear hK K hHeld
      have hHeld := hNew
      clear hNew
      try dsimp only at hHeld
      try simp only [Act.put, List.setIfInBounds_toArray, List.set_cons_zero, List.set_cons_succ]
      refine wpAnyH_ready (rs := [3, 6]) (by kernel_rfl) (by simp) ?_
      refine stepH 3 rfl (by rfl) (fun K hK => ?_) ?_
      · go_simp
        ((with_reducible refine (Clone_is x.p x.c x.lo _ _ rfl ?_ l1).mono ?_); (exact hx.lo.keep hHeld.2.2); rintro e1 w1 ⟨⟨p1, c1, rfl, hn1⟩, hb1⟩); (try have q1b := (hb1.cell (p := ⟨w.heap.size, 1, none⟩) (by simp; omega)).trans q1)
        refine hK.out _ _ ?_ (fun hNew => ?_)
        · (try dsimp only); first | exact CopS.keep _ _ (by first | exact hHeld | exact hS) (by first | assumption | (go_grown; done) | (refine from_drew ?_; go_grown; done)) | exact CopS.set hHeld _ _
        clear hK K hHeld
        have hHeld := hNew
        clear hNew
        try dsimp only at hHeld
        try simp only [Act.put, List.setIfInBounds_toArray, List.set_cons_zero, List.set_cons_succ]
        refine wpAnyH_ready (rs := [6]) (by kernel_rfl) (by simp) ?_
        refine stepH 6 rfl (by rfl) (fun K hK => ?_) ?_
        · go_simp
          refine hK.out _ _ ?_ (fun hNew => ?_)
          · (try dsimp only); first | exact CopS.keep _ _ (by first | exact hHeld | exact hS) (by first | assumption | (go_grown; done) | (refine from_drew ?_; go_grown; done)) | exact CopS.set hHeld _ _
          clear hK K hHeld
          have hHeld := hNew
          clear hNew
          try dsimp only at hHeld
          try simp only [Act.put, List.setIfInBounds_toArray, List.set_cons_zero, List.set_cons_succ]
          refine wpAnyH_ready (rs := [7]) (by kernel_rfl) (by simp) ?_
          refine stepH 7 rfl (by rfl) (fun K hK => ?_) ?_
          · go_simp
            ((with_reducible refine (Clone_is x.q x.f x.hi _ _ rfl ?_ l2).mono ?_); (exact hx.hi.keep hHeld.2.2); rintro e2 w2 ⟨⟨p2, c2, rfl, hn2⟩, hb2⟩); (try have q0b := (hb2.cell (p := ⟨w.heap.size, 0, none⟩) (by simp; omega)).trans q0)
            refine hK.out _ _ ?_ (fun hNew => ?_)
            · (try dsimp only); first | exact CopS.keep _ _ (by first | exact hHeld | exact hS) (by first | assumption | (go_grown; done) | (refine from_drew ?_; go_grown; done)) | exact CopS.set hHeld _ _
            clear hK K hHeld
            have hHeld := hNew
            clear hNew
            try dsimp only at hHeld
            try simp only [Act.put, List.setIfInBounds_toArray, List.set_cons_zero, List.set_cons_succ]
            refine takeH 8 (some 11) (v := ?_) rfl rfl (by kernel_rfl) (by kernel_rfl) (by kernel_rfl) (by rfl) ?_ (by exact hHeld) ?_
            rotate_left
            · intro w hSw; (try dsimp only at hSw); go_simp; try (with_reducible rfl)
            try simp only [Act.put, List.setIfInBounds_toArray, List.set_cons_zero, List.set_cons_succ]
            refine takeH 9 (some 12) (v := ?_) rfl rfl (by kernel_rfl) (by kernel_rfl) (by kernel_rfl) (by rfl) ?_ (by exact hHeld) ?_
            rotate_left
            · intro w hSw; (try dsimp only at hSw); go_simp; try (with_reducible rfl)
            try simp only [Act.put, List.setIfInBounds_toArray, List.set_cons_zero, List.set_cons_succ]
            refine wpAnyH_ready (rs := [10]) (by kernel_rfl) (by simp) ?_
            refine stepH 10 rfl (by rfl) (fun K hK => ?_) ?_
            · obtain ⟨⟨u0, v0, hO⟩, hR, hB1⟩ := id hHeld; have f0 := hO.frozen 0; have f1 := hO.frozen 1; have t0 := hO.cell (i := 0) rfl; have t1 := hO.cell (i := 1) rfl; go_simp
              refine hK.out _ _ ?_ (fun hNew => ?_)
              · (try dsimp only); first | exact CopS.keep _ _ (by first | exact hHeld | exact hS) (by first | assumption | (go_grown; done) | (refine from_drew ?_; go_grown; done)) | exact CopS.set hHeld _ _
              clear hK K hHeld
              have hHeld := hNew
              clear hNew
              try dsimp only at hHeld
              try simp only [Act.put, List.setIfInBounds_toArray, List.set_cons_zero, List.set_cons_succ]
              refine wpAnyH_done (by kernel_rfl) ?_ _
              refine NoPanic.normal ?_
              clear t0 t1 f0 f1
              go_wp2_with fail
              all_goals go_meet
              first | exact ⟨_, _, _, _, _, rfl, cop_set hO hR ((hn1.keep' hb2).mono (by simp; omega)) (hn2.mono (by have := hb1.size; simp at this; omega)) hB1⟩ | exact ⟨_, _, _, _, _, rfl, cop_set hO hR (hn1.mono (by have := hb2.size; simp at this; omega)) ((hn2.keep' hb1).mono (by simp; omega)) hB1⟩
            exact AllReadyH.nil
          exact AllReadyH.nil
        exact AllReadyH.nil
      refine stepH 6 rfl (by rfl) (fun K hK => ?_) ?_
      · go_simp
        refine hK.out _ _ ?_ (fun hNew => ?_)
        · (try dsimp only); first | exact CopS.keep _ _ (by first | exact hHeld | exact hS) (by first | assumption | (go_grown; done) | (refine from_drew ?_; go_grown; done)) | exact CopS.set hHeld _ _
        clear hK K hHeld
        have hHeld := hNew
        clear hNew
        try dsimp only at hHeld
        try simp only [Act.put, List.setIfInBounds_toArray, List.set_cons_zero, List.set_cons_succ]
        refine wpAnyH_ready (rs := [3]) (by kernel_rfl) (by simp) ?_
        refine stepH 3 rfl (by rfl) (fun K hK => ?_) ?_
        · go_simp
          ((with_reducible refine (Clone_is x.p x.c x.lo _ _ rfl ?_ l1).mono ?_); (exact hx.lo.keep hHeld.2.2); rintro e1 w1 ⟨⟨p1, c1, rfl, hn1⟩, hb1⟩); (try have q1b := (hb1.cell (p := ⟨w.heap.size, 1, none⟩) (by simp; omega)).trans q1)
          refine hK.out _ _ ?_ (fun hNew => ?_)
          · (try dsimp only); first | exact CopS.keep _ _ (by first | exact hHeld | exact hS) (by first | assumption | (go_grown; done) | (refine from_drew ?_; go_grown; done)) | exact CopS.set hHeld _ _
          clear hK K hHeld
          have hHeld := hNew
          clear hNew
          try dsimp only at hHeld
          try simp only [Act.put, List.setIfInBounds_toArray, List.set_cons_zero, List.set_cons_succ]
          refine wpAnyH_ready (rs := [7]) (by kernel_rfl) (by simp) ?_
          refine stepH 7 rfl (by rfl) (fun K hK => ?_) ?_
          · go_simp
            ((with_reducible refine (Clone_is x.q x.f x.hi _ _ rfl ?_ l2).mono ?_); (exact hx.hi.keep hHeld.2.2); rintro e2 w2 ⟨⟨p2, c2, rfl, hn2⟩, hb2⟩); (try have q0b := (hb2.cell (p := ⟨w.heap.size, 0, none⟩) (by simp; omega)).trans q0)
            refine hK.out _ _ ?_ (fun hNew => ?_)
            · (try dsimp only); first | exact CopS.keep _ _ (by first | exact hHeld | exact hS) (by first | assumption | (go_grown; done) | (refine from_drew ?_; go_grown; done)) | exact CopS.set hHeld _ _
            clear hK K hHeld
            have hHeld := hNew
            clear hNew
            try dsimp only at hHeld
            try simp only [Act.put, List.setIfInBounds_toArray, List.set_cons_zero, List.set_cons_succ]
            refine takeH 8 (some 11) (v := ?_) rfl rfl (by kernel_rfl) (by kernel_rfl) (by kernel_rfl) (by rfl) ?_ (by exact hHeld) ?_
            rotate_left
            · intro w hSw; (try dsimp only at hSw); go_simp; try (with_reducible rfl)
            try simp only [Act.put, List.setIfInBounds_toArray, List.set_cons_zero, List.set_cons_succ]
            refine takeH 9 (some 12) (v := ?_) rfl rfl (by kernel_rfl) (by kernel_rfl) (by kernel_rfl) (by rfl) ?_ (by exact hHeld) ?_
            rotate_left
            · intro w hSw; (try dsimp only at hSw); go_simp; try (with_reducible rfl)
            try simp only [Act.put, List.setIfInBounds_toArray, List.set_cons_zero, List.set_cons_succ]
            refine wpAnyH_ready (rs := [10]) (by kernel_rfl) (by simp) ?_
            refine stepH 10 rfl (by rfl) (fun K hK => ?_) ?_
            · obtain ⟨⟨u0, v0, hO⟩, hR, hB1⟩ := id hHeld; have f0 := hO.frozen 0; have f1 := hO.frozen 1; have t0 := hO.cell (i := 0) rfl; have t1 := hO.cell (i := 1) rfl; go_simp
              refine hK.out _ _ ?_ (fun hNew => ?_)
              · (try dsimp only); first | exact CopS.keep _ _ (by first | exact hHeld | exact hS) (by first | assumption | (go_grown; done) | (refine from_drew ?_; go_grown; done)) | exact CopS.set hHeld _ _
              clear hK K hHeld
              have hHeld := hNew
              clear hNew
              try dsimp only at hHeld
              try simp only [Act.put, List.setIfInBounds_toArray, List.set_cons_zero, List.set_cons_succ]
              refine wpAnyH_done (by kernel_rfl) ?_ _
              refine NoPanic.normal ?_
              clear t0 t1 f0 f1
              go_wp2_with fail
              all_goals go_meet
              first | exact ⟨_, _, _, _, _, rfl, cop_set hO hR ((hn1.keep' hb2).mono (by simp; omega)) (hn2.mono (by have := hb1.size; simp at this; omega)) hB1⟩ | exact ⟨_, _, _, _, _, rfl, cop_set hO hR (hn1.mono (by have := hb2.size; simp at this; omega)) ((hn2.keep' hb1).mono (by simp; omega)) hB1⟩
            exact AllReadyH.nil
          exact AllReadyH.nil
        exact AllReadyH.nil
      exact AllReadyH.nil
    refine stepH 6 rfl (by rfl) (fun K hK => ?_) ?_
    · go_simp
      refine hK.out _ _ ?_ (fun hNew => ?_)
      · (try dsimp only); first | exact CopS.keep _ _ (by first | exact hHeld | exact hS) (by first | assumption | (go_grown; done) | (refine from_drew ?_; go_grown; done)) | exact CopS.set hHeld _ _
      clear hK K hHeld
      have hHeld := hNew
      clear hNew
      try dsimp only at hHeld
      try simp only [Act.put, List.setIfInBounds_toArray, List.set_cons_zero, List.set_cons_succ]
      refine wpAnyH_ready (rs := [2]) (by kernel_rfl) (by simp) ?_
      refine stepH 2 rfl (by rfl) (fun K hK => ?_) ?_
      · go_simp
        refine hK.out _ _ ?_ (fun hNew => ?_)
        · (try dsimp only); first | exact CopS.keep _ _ (by first | exact hHeld | exact hS) (by first | assumption | (go_grown; done) | (refine from_drew ?_; go_grown; done)) | exact CopS.set hHeld _ _
        clear hK K hHeld
        have hHeld := hNew
        clear hNew
        try dsimp only at hHeld
        try simp only [Act.put, List.setIfInBounds_toArray, List.set_cons_zero, List.set_cons_succ]
        refine wpAnyH_ready (rs := [3]) (by kernel_rfl) (by simp) ?_
        refine stepH 3 rfl (by rfl) (fun K hK => ?_) ?_
        · go_simp
          ((with_reducible refine (Clone_is x.p x.c x.lo _ _ rfl ?_ l1).mono ?_); (exact hx.lo.keep hHeld.2.2); rintro e1 w1 ⟨⟨p1, c1, rfl, hn1⟩, hb1⟩); (try have q1b := (hb1.cell (p := ⟨w.heap.size, 1, none⟩) (by simp; omega)).trans q1)
          refine hK.out _ _ ?_ (fun hNew => ?_)
          · (try dsimp only); first | exact CopS.keep _ _ (by first | exact hHeld | exact hS) (by first | assumption | (go_grown; done) | (refine from_drew ?_; go_grown; done)) | exact CopS.set hHeld _ _
          clear hK K hHeld
          have hHeld := hNew
          clear hNew
          try dsimp only at hHeld
          try simp only [Act.put, List.setIfInBounds_toArray, List.set_cons_zero, List.set_cons_succ]
          refine wpAnyH_ready (rs := [7]) (by kernel_rfl) (by simp) ?_
          refine stepH 7 rfl (by rfl) (fun K hK => ?_) ?_
          · go_simp
            ((with_reducible refine (Clone_is x.q x.f x.hi _ _ rfl ?_ l2).mono ?_); (exact hx.hi.keep hHeld.2.2); rintro e2 w2 ⟨⟨p2, c2, rfl, hn2⟩, hb2⟩); (try have q0b := (hb2.cell (p := ⟨w.heap.size, 0, none⟩) (by simp; omega)).trans q0)
            refine hK.out _ _ ?_ (fun hNew => ?_)
            · (try dsimp only); first | exact CopS.keep _ _ (by first | exact hHeld | exact hS) (by first | assumption | (go_grown; done) | (refine from_drew ?_; go_grown; done)) | exact CopS.set hHeld _ _
            clear hK K hHeld
            have hHeld := hNew
            clear hNew
            try dsimp only at hHeld
            try simp only [Act.put, List.setIfInBounds_toArray, List.set_cons_zero, List.set_cons_succ]
            refine takeH 8 (some 11) (v := ?_) rfl rfl (by kernel_rfl) (by kernel_rfl) (by kernel_rfl) (by rfl) ?_ (by exact hHeld) ?_
            rotate_left
            · intro w hSw; (try dsimp only at hSw); go_simp; try (with_reducible rfl)
            try simp only [Act.put, List.setIfInBounds_toArray, List.set_cons_zero, List.set_cons_succ]
            refine takeH 9 (some 12) (v := ?_) rfl rfl (by kernel_rfl) (by kernel_rfl) (by kernel_rfl) (by rfl) ?_ (by exact hHeld) ?_
            rotate_left
            · intro w hSw; (try dsimp only at hSw); go_simp; try (with_reducible rfl)
            try simp only [Act.put, List.setIfInBounds_toArray, List.set_cons_zero, List.set_cons_succ]
            refine wpAnyH_ready (rs := [10]) (by kernel_rfl) (by simp) ?_
            refine stepH 10 rfl (by rfl) (fun K hK => ?_) ?_
            · obtain ⟨⟨u0, v0, hO⟩, hR, hB1⟩ := id hHeld; have f0 := hO.frozen 0; have f1 := hO.frozen 1; have t0 := hO.cell (i := 0) rfl; have t1 := hO.cell (i := 1) rfl; go_simp
              refine hK.out _ _ ?_ (fun hNew => ?_)
              · (try dsimp only); first | exact CopS.keep _ _ (by first | exact hHeld | exact hS) (by first | assumption | (go_grown; done) | (refine from_drew ?_; go_grown; done)) | exact CopS.set hHeld _ _
              clear hK K hHeld
              have hHeld := hNew
              clear hNew
              try dsimp only at hHeld
              try simp only [Act.put, List.setIfInBounds_toArray, List.set_cons_zero, List.set_cons_succ]
              refine wpAnyH_done (by kernel_rfl) ?_ _
              refine NoPanic.normal ?_
              clear t0 t1 f0 f1
              go_wp2_with fail
              all_goals go_meet
              first | exact ⟨_, _, _, _, _, rfl, cop_set hO hR ((hn1.keep' hb2).mono (by simp; omega)) (hn2.mono (by have := hb1.size; simp at this; omega)) hB1⟩ | exact ⟨_, _, _, _, _, rfl, cop_set hO hR (hn1.mono (by have := hb2.size; simp at this; omega)) ((hn2.keep' hb1).mono (by simp; omega)) hB1⟩
            exact AllReadyH.nil
          exact AllReadyH.nil
        exact AllReadyH.nil
      exact AllReadyH.nil
    exact AllReadyH.nil
  case rest =>
    obtain ⟨wz, p, c, q, f, rfl, HT⟩ := hcut
    clear q0 q1 hlt hS hWw
    have og := HT.out.own
    have c0 := og.cell (i := 0) rfl
    have c1 := og.cell (i := 1) rfl
    have c5 := og.cell (i := 5) rfl
    have f5 := og.frozen 5
    go_wp2_with fail
    refine (Clone_is x.g x.d x.s _ _ rfl (hx.s.keep HT.out.below) l3).mono ?_
    rintro e3 w3 ⟨⟨p3, d3, rfl, hn3⟩, hb3⟩
    have og := og.keep hb3 og.lt
    have or := HT.out.res.keep hb3 HT.out.res.lt
    have n1 := Lib.hid (HT.out.lo.keep' hb3)
    have n2 := Lib.hid (HT.out.hi.keep' hb3)
    have hb := Lib.hid (below_t HT.out.below hb3)
    have hzz := HT.out.below.size
    have n3 := Lib.hid (hn3.mono hzz)
    clear hb3 hn3 c0 c1 c5 f5 HT hzz
    have c0 := og.cell (i := 0) rfl
    have c1 := og.cell (i := 1) rfl
    have c2 := og.cell (i := 2) rfl
    have c3 := og.cell (i := 3) rfl
    have c4 := og.cell (i := 4) rfl
    have c5 := og.cell (i := 5) rfl
    have c6 := og.cell (i := 6) rfl
    have c7 := og.cell (i := 7) rfl
    have c8 := og.cell (i := 8) rfl
    have f5 := og.frozen 5
    have o1 := og.set (i := 5) (by simp) (.slice p3 x.s.length d3)
    have r0 := or.cell (i := 0) rfl
    have g0 := or.frozen 0
    have r1 := or.cell (i := 1) rfl
    have g1 := or.frozen 1
    have r2 := or.cell (i := 2) rfl
    have g2 := or.frozen 2
    have r3 := or.cell (i := 3) rfl
    have g3 := or.frozen 3
    have r4 := or.cell (i := 4) rfl
    have g4 := or.frozen 4
    have r5 := or.cell (i := 5) rfl
    have g5 := or.frozen 5
    have r6 := or.cell (i := 6) rfl
    have g6 := or.frozen 6
    have r7 := or.cell (i := 7) rfl
    have g7 := or.frozen 7
    have r8 := or.cell (i := 8) rfl
    have g8 := or.frozen 8
    have hne : w.heap.size ≠ w.heap.size + 1 := by omega
    have hne' : w.heap.size + 1 ≠ w.heap.size := by omega
    go_wp2_with fail
    have or1 := or.other (a := ⟨w.heap.size, 5, none⟩) (by show w.heap.size ≠ _; omega) (.slice p3 x.s.length d3)
    refine bodyPost_ret (v := .agg #[.slice p x.lo.length c, .slice q x.hi.length f, .int .i64 x.k, .int .i64 x.b, .int .i64 x.e, .slice p3 x.s.length d3, .int .i64 x.st, .int .i64 x.sp, .int .i64 x.md]) (by simp [results, Try.results17, go_sem, r0, g0, r1, g1, r2, g2, r3, g3, r4, g4, r5, g5, r6, g6, r7, g7, r8, g8, hne, hne']) rfl ?_
    exact ⟨⟨⟨p, c, x.lo, q, f, x.hi, x.k, x.b, x.e, p3, d3, x.s, x.st, x.sp, x.md⟩, rfl, set9_pvn (x := ⟨p, c, x.lo, q, f, x.hi, x.k, x.b, x.e, p3, d3, x.s, x.st, x.sp, x.md⟩) ⟨n1.out.otherT og (by decide) _, n2.out.otherT og (by decide) _, n3.out.otherT og (by decide) _⟩ or1 (by decide), .refl _, .refl _, ⟨.refl _, .refl _, .refl _, .refl _, .refl _, .refl _, .refl _⟩⟩, set9_below (x := ⟨p, c, x.lo, q, f, x.hi, x.k, x.b, x.e, p3, d3, x.s, x.st, x.sp, x.md⟩) (below_set hb.out (Nat.le_refl _) 5 _) (by omega)⟩
end Go.Proofs.Ytgbeokfpegdgdaa
