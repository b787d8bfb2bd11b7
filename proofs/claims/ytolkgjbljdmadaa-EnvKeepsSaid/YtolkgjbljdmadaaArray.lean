/- What the functions of package array return: Check, Copy, New, Scalar, Vector, At, Equal. -/
import Derived.Test.YtolkgjbljdmadaaHeld
import Derived.Laws.CopyOwn
import Derived.BigGuardPart
namespace Go.Proofs.Ytolkgjbljdmadaa
open Go.RowKit Go.Shelf
set_option linter.unusedVariables false

/-- the error of an array -/
def arrS (s d : List Int) : Int := if shapeS s = 0 then (if (d.length : Int) = cellsS s then 0 else 5) else shapeS s

theorem ArrayCheck_any (p q : Option Addr) (c f : Nat) (s d : List Int) (w : World) (h : Ints w p s) (h' : Ints w q d) :
    Calls Try.prog 66 #[.agg #[.slice p s.length c, .slice q d.length f]] w fun e w' => e = .returned (.int .i64 (arrS s d)) ∧ Below w.heap.size w w' := by
  have hn := h'.small
  by_cases hz : shapeS s = 0
  · by_cases hc : (d.length : Int) = cellsS s
    · have e : arrS s d = 0 := by unfold arrS; rw [if_pos hz, if_pos hc]
      rw [e]
      have hcb : ((d.length : Int) != cellsS s) = false := by simp [hc]
      clear e hc
      go_enter Try.func66, Try.ntmps66
      go_wp2_with fail
      refine (ShapeCheck_any _ _ _ _ (h.keep (below_alloc _ _))).mono ?_
      rintro e w' ⟨rfl, rfl⟩
      go_wp2_with fail
      go_quiet ((go_at_call 77; exact quiet_left (ShapeCells_any _ _ _ _ (Ints.drew (h.keep (below_alloc _ _)) _))))
      go_wp2_with fail
      go_ret
      exact ⟨rfl, (below_alloc _ _).trans (below_drewN _ _ _)⟩
    · have e : arrS s d = 5 := by unfold arrS; rw [if_pos hz, if_neg hc]
      rw [e]
      have hcb : ((d.length : Int) != cellsS s) = true := by simp [hc]
      clear e hc
      go_enter Try.func66, Try.ntmps66
      go_wp2_with fail
      refine (ShapeCheck_any _ _ _ _ (h.keep (below_alloc _ _))).mono ?_
      rintro e w' ⟨rfl, rfl⟩
      go_wp2_with fail
      go_quiet ((go_at_call 77; exact quiet_left (ShapeCells_any _ _ _ _ (Ints.drew (h.keep (below_alloc _ _)) _))))
      go_wp2_with fail
      go_ret
      exact ⟨rfl, (below_alloc _ _).trans (below_drewN _ _ _)⟩
  · have e : arrS s d = shapeS s := if_neg hz
    rw [e]
    have hzb : (shapeS s != 0) = true := by simp [hz]
    clear e
    go_enter Try.func66, Try.ntmps66
    go_wp2_with fail
    refine (ShapeCheck_any _ _ _ _ (h.keep (below_alloc _ _))).mono ?_
    rintro e w' ⟨rfl, rfl⟩
    go_wp2_with fail
    go_ret
    exact ⟨rfl, below_alloc _ _⟩

/-- 'copy(dst, src)' of the whole row -/
theorem copy_all {w : World} {ops : Array Oper} {rest : List Oper} {o : Oper} {a : Act} {Q : Exit → Act → World → Prop} (hgd : o.guard = none) (d s : Operand) (T E : TypeId)
    (ho : o.op = .call { callee := .builtin .copy, args := #[d, s], argTypes := #[T, T] }) (hu : Try.prog.underlying T = some (.slice E)) (hsz : (Try.prog.info? E).map (·.size) = some 1)
    (g c f : Nat) (p : Option Addr) (us : List Value) (hd : a.eval d = .slice (some ⟨g, 0, none⟩) us.length c) (hs : a.eval s = .slice p us.length f)
    (e : TypeId) (vs : List Value) (hown : Own w g e vs) (hl : vs.length = us.length) (hc : Cells w p us) (h1 : ∀ v ∈ us, v.oneCell' = true) (B : Nat) (w0 : World) (hb : Below B w0 w) (hBg : B ≤ g)
    (h : ∀ w', Own w' g e us → Below B w0 w' → wpList Try.prog ops Q rest (a.put o.dst (goInt us.length)) w') : wpList Try.prog ops Q (o :: rest) a w := by
  obtain ⟨r, hg⟩ := hown
  refine wpList_copy_splice hgd d s T T ho E hu hsz _ p us.length c us.length f hd hs g 0 (vs ++ r) e hg us (by simp) ?_ (by simp; omega) h1 B w0 hb hBg ?_
  · intro h0
    refine ⟨rfl, ?_⟩
    rcases hc with hc | ⟨b, off, hp, -, hc⟩
    · rw [hc] at h0
      simp at h0
    · refine ⟨_, hp, fun j v hv => ?_⟩
      rw [Addr.add_lit]
      exact hc j v hv
  · intro w' hw' hb'
    refine h w' ⟨r, ?_⟩ hb'
    have := hw'.out
    rw [this]
    have e : splice (vs ++ r) 0 us = us ++ r := by
      unfold splice
      rw [Nat.zero_add, ← hl, List.drop_left]
      rfl
    rw [e]

theorem copy_ints {w : World} {ops : Array Oper} {rest : List Oper} {o : Oper} {a : Act} {Q : Exit → Act → World → Prop} (hgd : o.guard = none) (d s : Operand) (T E : TypeId)
    (ho : o.op = .call { callee := .builtin .copy, args := #[d, s], argTypes := #[T, T] }) (hu : Try.prog.underlying T = some (.slice E)) (hsz : (Try.prog.info? E).map (·.size) = some 1)
    (g c f : Nat) (p : Option Addr) (us : List Int) (hd : a.eval d = .slice (some ⟨g, 0, none⟩) us.length c) (hs : a.eval s = .slice p us.length f)
    (e : TypeId) (vs : List Value) (hown : Own w g e vs) (hl : vs.length = us.length) (hc : Cells w p (us.map (.int .i64))) (B : Nat) (w0 : World) (hb : Below B w0 w) (hBg : B ≤ g)
    (h : ∀ w', Own w' g e (us.map (.int .i64)) → Below B w0 w' → wpList Try.prog ops Q rest (a.put o.dst (.int .i64 us.length)) w') : wpList Try.prog ops Q (o :: rest) a w := by
  refine copy_all hgd d s T E ho hu hsz g c f p (us.map (.int .i64)) (by rw [List.length_map]; exact hd) (by rw [List.length_map]; exact hs) e vs hown (by rw [List.length_map]; exact hl) hc int_cells B w0 hb hBg ?_
  intro w' h1 h2
  rw [List.length_map]
  exact h w' h1 h2

set_option maxRecDepth 100000 in
theorem copied_int_any (p : Option Addr) (c : Nat) (xs : List Int) (w : World) (h : Ints w p xs) (hl : xs.length ≤ 1099511627776) :
    Calls Try.prog 68 #[.slice p xs.length c] w fun e w' => (∃ q c', e = .returned (.slice q xs.length c') ∧ New w.heap.size w' q 3 (xs.map (.int .i64))) ∧ Below w.heap.size w w' := by
  have hi : (Try.prog.info? 3).map (·.size) = some 1 := by kernel_rfl
  have Hi := Lib.hid hi
  clear hi
  go_enter Try.func68, Try.ntmps68
  go_wp2_with (first | (at_make; refine make_ints rfl _ _ rfl xs.length rfl rfl hl ?_; intro w1 hown hg; have hb1 := below_grown hg; clear hg) | ((with_reducible refine copy_ints (o := ⟨some 9, _, _, _, _, _⟩) rfl _ _ 26 3 rfl Try.underlying26 Hi.out w.heap.size xs.length c p xs ?hd ?hs 3 _ hown ?hl (h.keep hb1).cells w.heap.size w hb1 (Nat.le_refl _) ?hK); (case hd => rfl); (case hs => rfl); (case hl => simp); intro w2 hown2 hb2))
  go_ret
  refine ⟨⟨_, xs.length, ?_, .inr ⟨_, rfl, Nat.le_refl _, hown2⟩⟩, hb2⟩
  rfl
set_option maxRecDepth 100000 in
theorem copied_int64_any (p : Option Addr) (c : Nat) (xs : List Int) (w : World) (h : Ints w p xs) (hl : xs.length ≤ 1099511627776) :
    Calls Try.prog 69 #[.slice p xs.length c] w fun e w' => (∃ q c', e = .returned (.slice q xs.length c') ∧ New w.heap.size w' q 2 (xs.map (.int .i64))) ∧ Below w.heap.size w w' := by
  have hi : (Try.prog.info? 2).map (·.size) = some 1 := by kernel_rfl
  have Hi := Lib.hid hi
  clear hi
  go_enter Try.func69, Try.ntmps69
  go_wp2_with (first | (at_make; refine make_i64s rfl _ _ rfl xs.length rfl rfl hl ?_; intro w1 hown hg; have hb1 := below_grown hg; clear hg) | ((with_reducible refine copy_ints (o := ⟨some 9, _, _, _, _, _⟩) rfl _ _ 22 2 rfl Try.underlying22 Hi.out w.heap.size xs.length c p xs ?hd ?hs 2 _ hown ?hl (h.keep hb1).cells w.heap.size w hb1 (Nat.le_refl _) ?hK); (case hd => rfl); (case hs => rfl); (case hl => simp); intro w2 hown2 hb2))
  go_ret
  refine ⟨⟨_, xs.length, ?_, .inr ⟨_, rfl, Nat.le_refl _, hown2⟩⟩, hb2⟩
  rfl
end Go.Proofs.Ytolkgjbljdmadaa
