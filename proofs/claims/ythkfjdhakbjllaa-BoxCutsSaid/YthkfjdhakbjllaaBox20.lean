/- The boxes that are not empty, of one or two: box.filled. No condition beyond what each says. -/
import Derived.Test.YthkfjdhakbjllaaBox19
import Derived.Lib.SliceRun
namespace Go.Proofs.Ythkfjdhakbjllaa
open Go.RowKit Go.Shelf
set_option linter.unusedVariables false
set_option linter.unusedSimpArgs false

/-- what the predicate of box.filled answers of a box, wherever memory has grown -/
def Asks (w : World) (x0 x1 : Value) (d : Bool) : Prop := ∀ w', Below w.heap.size w w' → Calls Try.prog 120 #[.agg #[x0, x1]] w' fun e w'' => e = .returned (.bool d) ∧ Below w'.heap.size w' w''

set_option maxRecDepth 100000 in
set_option maxHeartbeats 4000000 in
theorem IdxBox2 (g cap : Nat) (x0 x1 y0 y1 : Value) (d0 d1 : Bool) (r : Int) (hr : (if d0 then 0 else if d1 then 1 else -1) = r) (w : World) (ho : Own w g 67 [x0, x1, y0, y1]) (h0 : Asks w x0 x1 d0) (h1 : Asks w y0 y1 d1) :
    Calls Try.prog 134 #[.slice (some ⟨g, 0, none⟩) 2 cap, .func (.func 120) #[] #[]] w fun e w' => e = .returned (.int .i64 r) ∧ Below w.heap.size w w' := by
  have HR := Lib.hid hr
  clear hr
  have q0 := ho.cell (i := 0) rfl
  have q1 := ho.cell (i := 1) rfl
  have q2 := ho.cell (i := 2) rfl
  have q3 := ho.cell (i := 3) rfl
  have hlt := ho.lt
  go_enter Try.func134, Try.ntmps134
  go_wp2_with fail
  refine wp_loop_rounds 3 ?_
  rw [rounds_succ]
  go_wp2_with fail
  refine (h0 w (Below.refl _ _)).mono ?_
  rintro e1 w1 ⟨rfl, hb1⟩
  cases d0 with
  | true =>
    go_wp2_with fail
    go_ret
    exact ⟨ret_int HR.out, hb1⟩
  | false =>
    have q2 := (hb1.cell (p := ⟨g, 2, none⟩) hlt).trans q2
    have q3 := (hb1.cell (p := ⟨g, 3, none⟩) hlt).trans q3
    go_wp2_with fail
    rw [rounds_succ]
    go_wp2_with fail
    refine (h1 w1 hb1).mono ?_
    rintro e2 w2 ⟨rfl, hb2⟩
    have hb := below_t hb1 hb2
    cases d1 with
    | true =>
      go_wp2_with fail
      go_ret
      exact ⟨ret_int HR.out, hb⟩
    | false =>
      go_wp2_with fail
      rw [rounds_succ]
      go_wp2_with fail
      go_ret
      exact ⟨ret_int HR.out, hb⟩

set_option maxRecDepth 100000 in
set_option maxHeartbeats 4000000 in
theorem IdxBox1 (g cap : Nat) (x0 x1 : Value) (d0 : Bool) (r : Int) (hr : (if d0 then 0 else -1) = r) (w : World) (ho : Own w g 67 [x0, x1]) (h0 : Asks w x0 x1 d0) :
    Calls Try.prog 134 #[.slice (some ⟨g, 0, none⟩) 1 cap, .func (.func 120) #[] #[]] w fun e w' => e = .returned (.int .i64 r) ∧ Below w.heap.size w w' := by
  have HR := Lib.hid hr
  clear hr
  have q0 := ho.cell (i := 0) rfl
  have q1 := ho.cell (i := 1) rfl
  go_enter Try.func134, Try.ntmps134
  go_wp2_with fail
  refine wp_loop_rounds 2 ?_
  rw [rounds_succ]
  go_wp2_with fail
  refine (h0 w (Below.refl _ _)).mono ?_
  rintro e1 w1 ⟨rfl, hb1⟩
  cases d0 with
  | true =>
    go_wp2_with fail
    go_ret
    exact ⟨ret_int HR.out, hb1⟩
  | false =>
    go_wp2_with fail
    rw [rounds_succ]
    go_wp2_with fail
    go_ret
    exact ⟨ret_int HR.out, hb1⟩

theorem run_clear_box (w : World) (g o c n : Nat) (ty : TypeId) (hn : n = 1 ∨ n = 2) (hc : ∀ j, j < 2 * n → (w.cell? ⟨g, o + j, none⟩).isSome = true) (hf : ∀ j, j < 2 * n → w.frozen? ⟨g, o + j, none⟩ = false) :
    (Builtin.clear_ #[81] ty #[.slice (some ⟨g, o, none⟩) n c]).run Try.prog w = .ok (.tuple #[]) (w.setCells g o (List.replicate (2 * n) (.slice none 0 0))) := by
  have hzc : (Builtin.zeroCells (Value.agg #[.slice none 0 0, .slice none 0 0]).cells n).toList = List.replicate (2 * n) (.slice none 0 0) := by
    rcases hn with rfl | rfl <;> kernel_rfl
  have hst := run_storeCells_cells (P := Try.prog) g o (List.replicate (2 * n) (.slice none 0 0)) 0 w (by simpa using hc) (by simpa using hf) (by intro v hv'; rw [List.eq_of_mem_replicate hv']; rfl)
  simp only [Nat.add_zero] at hst
  obtain ⟨m, rfl⟩ : ∃ m, n = m + 1 := ⟨n - 1, by omega⟩
  simp [Builtin.clear_, run_underlying Try.underlying81, Try.zeroValue67, hzc, hst]
theorem clear_one {w : World} {g o : Nat} {us vs : List Value} {u v : Value} (c : Nat) (ty : TypeId) (h : Own w g 67 (us ++ u :: v :: vs)) (ho : o = us.length) :
    (Builtin.clear_ #[81] ty #[.slice (some ⟨g, o, none⟩) 1 c]).run Try.prog w = .ok (.tuple #[]) ((w.setCell ⟨g, o, none⟩ (.slice none 0 0)).setCell ⟨g, o + 1, none⟩ (.slice none 0 0)) :=
  run_clear_box w g o c 1 ty (.inl rfl) (fun j hj => by
    subst ho
    match j, hj with
    | 0, _ => rw [h.cell (u := u) (by simp)]; rfl
    | 1, _ => rw [h.cell (u := v) (by simp)]; rfl) (fun j _ => h.frozen _)
theorem clear_two {w : World} {g : Nat} {a b u v : Value} (c : Nat) (ty : TypeId) (h : Own w g 67 [a, b, u, v]) :
    (Builtin.clear_ #[81] ty #[.slice (some ⟨g, 0, none⟩) 2 c]).run Try.prog w = .ok (.tuple #[]) ((((w.setCell ⟨g, 0, none⟩ (.slice none 0 0)).setCell ⟨g, 1, none⟩ (.slice none 0 0)).setCell ⟨g, 2, none⟩ (.slice none 0 0)).setCell ⟨g, 3, none⟩ (.slice none 0 0)) :=
  run_clear_box w g 0 c 2 ty (.inr rfl) (fun j hj => by
    match j, hj with
    | 0, _ => rw [h.cell (i := 0 + 0) (u := a) rfl]; rfl
    | 1, _ => rw [h.cell (i := 0 + 1) (u := b) rfl]; rfl
    | 2, _ => rw [h.cell (i := 0 + 2) (u := u) rfl]; rfl
    | 3, _ => rw [h.cell (i := 0 + 3) (u := v) rfl]; rfl) (fun j _ => h.frozen _)

/-- what is left: it lies ahead in the same block -/
def Left (g : Nat) (us : List Value) (w : World) (e : Ending) (w' : World) : Prop := (∃ n cap, us.length = n * 2 ∧ e = .returned (.slice (some ⟨g, 0, none⟩) n cap) ∧ Own w' g 67 us) ∧ Below g w w'
theorem below_less {g B : Nat} {a b : World} (h : Below B a b) (hg : g ≤ B) : Below g a b := h.mono hg

/-- the block's facts that each walk below uses -/
theorem del_facts {w : World} {g : Nat} {x0 x1 y0 y1 : Value} (ho : Own w g 67 [x0, x1, y0, y1]) : (w.cell? ⟨g, 0, none⟩ = some x0 ∧ w.cell? ⟨g, 1, none⟩ = some x1 ∧ w.cell? ⟨g, 2, none⟩ = some y0 ∧ w.cell? ⟨g, 3, none⟩ = some y1) ∧ w.frozen? ⟨g, 0, none⟩ = false ∧ w.frozen? ⟨g, 1, none⟩ = false ∧ w.frozen? ⟨g, 2, none⟩ = false ∧ w.frozen? ⟨g, 3, none⟩ = false :=
  ⟨⟨ho.cell (i := 0) rfl, ho.cell (i := 1) rfl, ho.cell (i := 2) rfl, ho.cell (i := 3) rfl⟩, ho.frozen 0, ho.frozen 1, ho.frozen 2, ho.frozen 3⟩

set_option maxRecDepth 100000 in
set_option maxHeartbeats 4000000 in
theorem Del2_0 (g : Nat) (ax bx ay by' : Option Addr) (nx cx mx dx ny cy my dy : Nat) (w : World) (ho : Own w g 67 [.slice ax nx cx, .slice bx mx dx, .slice ay ny cy, .slice by' my dy]) (h0 : Asks w (.slice ax nx cx) (.slice bx mx dx) false) (h1 : Asks w (.slice ay ny cy) (.slice by' my dy) false) :
    Calls Try.prog 119 #[.slice (some ⟨g, 0, none⟩) 2 2, .func (.func 120) #[] #[]] w (Left g [.slice ax nx cx, .slice bx mx dx, .slice ay ny cy, .slice by' my dy] w) := by
  have hlt := ho.lt
  go_enter Try.func119, Try.ntmps119
  go_wp2_with fail
  refine (IdxBox2 g 2 _ _ _ _ false false (-1) rfl w ho h0 h1).mono ?_
  rintro e1 w1 ⟨rfl, hb1⟩
  have ho := ho.keep hb1 hlt
  obtain ⟨⟨q0, q1, q2, q3⟩, f0, f1, f2, f3⟩ := del_facts ho
  have hlt1 := ho.lt
  have hne : g ≠ w1.heap.size := by omega
  go_wp2_with fail
  go_ret
  exact ⟨⟨2, 2, rfl, rfl, ho⟩, below_less hb1 (by omega)⟩

set_option maxRecDepth 100000 in
set_option maxHeartbeats 4000000 in
theorem Del2_1 (g : Nat) (ax bx ay by' : Option Addr) (nx cx mx dx ny cy my dy : Nat) (w : World) (ho : Own w g 67 [.slice ax nx cx, .slice bx mx dx, .slice ay ny cy, .slice by' my dy]) (h0 : Asks w (.slice ax nx cx) (.slice bx mx dx) false) (h1 : Asks w (.slice ay ny cy) (.slice by' my dy) true) :
    Calls Try.prog 119 #[.slice (some ⟨g, 0, none⟩) 2 2, .func (.func 120) #[] #[]] w (Left g [.slice ax nx cx, .slice bx mx dx] w) := by
  have hlt := ho.lt
  go_enter Try.func119, Try.ntmps119
  go_wp2_with fail
  refine (IdxBox2 g 2 _ _ _ _ false true (1) rfl w ho h0 h1).mono ?_
  rintro e1 w1 ⟨rfl, hb1⟩
  have ho := ho.keep hb1 hlt
  obtain ⟨⟨q0, q1, q2, q3⟩, f0, f1, f2, f3⟩ := del_facts ho
  have hlt1 := ho.lt
  have hne : g ≠ w1.heap.size := by omega
  have hcl := fun ty => clear_one (us := [.slice ax nx cx, .slice bx mx dx]) (vs := []) 1 ty ho (o := 2) rfl
  have OZ := Lib.hid ((ho.set (i := 2) (by simp) (.slice none 0 0)).set (i := 3) (by simp) (.slice none 0 0))
  have hbz := Lib.hid (below_set (below_set (below_less hb1 (by omega)) (Nat.le_refl g) 2 (.slice none 0 0)) (Nat.le_refl g) 3 (.slice none 0 0))
  go_wp2_with fail
  refine wp_loop_rounds 1 ?_
  rw [rounds_succ]
  go_wp2_with fail
  go_ret
  exact ⟨⟨1, 2, rfl, rfl, Own.pre (us := [.slice none 0 0, .slice none 0 0]) OZ.out⟩, hbz.out⟩

set_option maxRecDepth 100000 in
set_option maxHeartbeats 4000000 in
theorem Del2_2 (g : Nat) (ax bx ay by' : Option Addr) (nx cx mx dx ny cy my dy : Nat) (w : World) (ho : Own w g 67 [.slice ax nx cx, .slice bx mx dx, .slice ay ny cy, .slice by' my dy]) (h0 : Asks w (.slice ax nx cx) (.slice bx mx dx) true) (h1 : Asks w (.slice ay ny cy) (.slice by' my dy) false) :
    Calls Try.prog 119 #[.slice (some ⟨g, 0, none⟩) 2 2, .func (.func 120) #[] #[]] w (Left g [.slice ay ny cy, .slice by' my dy] w) := by
  have hlt := ho.lt
  go_enter Try.func119, Try.ntmps119
  go_wp2_with fail
  refine (IdxBox2 g 2 _ _ _ _ true false (0) rfl w ho h0 h1).mono ?_
  rintro e1 w1 ⟨rfl, hb1⟩
  have ho := ho.keep hb1 hlt
  obtain ⟨⟨q0, q1, q2, q3⟩, f0, f1, f2, f3⟩ := del_facts ho
  have hlt1 := ho.lt
  have hne : g ≠ w1.heap.size := by omega
  go_wp2_with fail
  refine wp_loop_rounds 2 ?_
  rw [rounds_succ]
  go_wp2_with fail
  refine (h1 _ (below_t hb1 (below_alloc _ _))).mono ?_
  rintro e2 w2 ⟨rfl, hb2⟩
  have hb := below_t hb1 (below_1 hb2)
  have ho2 := (ho.keep (below_alloc w1 (.cells #[.slice ay ny cy, .slice by' my dy] 67)) hlt1).keep hb2 (by simp; omega)
  have c0 : w2.cell? ⟨w1.heap.size, 0, none⟩ = some (.slice ay ny cy) := (hb2.cell (p := ⟨w1.heap.size, 0, none⟩) (by simp)).trans (by simp [go_sem])
  have c1 : w2.cell? ⟨w1.heap.size, 1, none⟩ = some (.slice by' my dy) := (hb2.cell (p := ⟨w1.heap.size, 1, none⟩) (by simp)).trans (by simp [go_sem])
  clear q0 q1 q2 q3 f0 f1 f2 f3 hb1 hb2
  obtain ⟨⟨q0, q1, q2, q3⟩, f0, f1, f2, f3⟩ := del_facts ho2
  have OS := (ho2.set (i := 0) (by simp) (.slice ay ny cy)).set (i := 1) (by simp) (.slice by' my dy)
  have hcl := fun ty => clear_one (us := [.slice ay ny cy, .slice by' my dy]) (vs := []) 1 ty OS (o := 2) rfl
  have OZ := Lib.hid ((OS.set (i := 2) (by simp) (.slice none 0 0)).set (i := 3) (by simp) (.slice none 0 0))
  have hbz := Lib.hid (below_set (below_set (below_set (below_set (below_less hb (by omega)) (Nat.le_refl g) 0 (.slice ay ny cy)) (Nat.le_refl g) 1 (.slice by' my dy)) (Nat.le_refl g) 2 (.slice none 0 0)) (Nat.le_refl g) 3 (.slice none 0 0))
  clear OS hb
  go_wp2_with fail
  rw [rounds_succ]
  go_wp2_with fail
  go_ret
  exact ⟨⟨1, 2, rfl, rfl, Own.pre (us := [.slice none 0 0, .slice none 0 0]) OZ.out⟩, hbz.out⟩

set_option maxRecDepth 100000 in
set_option maxHeartbeats 4000000 in
theorem Del2_3 (g : Nat) (ax bx ay by' : Option Addr) (nx cx mx dx ny cy my dy : Nat) (w : World) (ho : Own w g 67 [.slice ax nx cx, .slice bx mx dx, .slice ay ny cy, .slice by' my dy]) (h0 : Asks w (.slice ax nx cx) (.slice bx mx dx) true) (h1 : Asks w (.slice ay ny cy) (.slice by' my dy) true) :
    Calls Try.prog 119 #[.slice (some ⟨g, 0, none⟩) 2 2, .func (.func 120) #[] #[]] w (Left g [] w) := by
  have hlt := ho.lt
  go_enter Try.func119, Try.ntmps119
  go_wp2_with fail
  refine (IdxBox2 g 2 _ _ _ _ true true (0) rfl w ho h0 h1).mono ?_
  rintro e1 w1 ⟨rfl, hb1⟩
  have ho := ho.keep hb1 hlt
  obtain ⟨⟨q0, q1, q2, q3⟩, f0, f1, f2, f3⟩ := del_facts ho
  have hlt1 := ho.lt
  have hne : g ≠ w1.heap.size := by omega
  go_wp2_with fail
  refine wp_loop_rounds 2 ?_
  rw [rounds_succ]
  go_wp2_with fail
  refine (h1 _ (below_t hb1 (below_alloc _ _))).mono ?_
  rintro e2 w2 ⟨rfl, hb2⟩
  have hb := below_t hb1 (below_1 hb2)
  have ho2 := (ho.keep (below_alloc w1 (.cells #[.slice ay ny cy, .slice by' my dy] 67)) hlt1).keep hb2 (by simp; omega)
  clear q0 q1 q2 q3 f0 f1 f2 f3 hb1 hb2
  have hcl := fun ty => clear_two 2 ty ho2
  have OZ := Lib.hid ((((ho2.set (i := 0) (by simp) (.slice none 0 0)).set (i := 1) (by simp) (.slice none 0 0)).set (i := 2) (by simp) (.slice none 0 0)).set (i := 3) (by simp) (.slice none 0 0))
  have hbz := Lib.hid (below_set (below_set (below_set (below_set (below_less hb (by omega)) (Nat.le_refl g) 0 (.slice none 0 0)) (Nat.le_refl g) 1 (.slice none 0 0)) (Nat.le_refl g) 2 (.slice none 0 0)) (Nat.le_refl g) 3 (.slice none 0 0))
  clear hb
  go_wp2_with fail
  rw [rounds_succ]
  go_wp2_with fail
  go_ret
  exact ⟨⟨0, 2, rfl, rfl, Own.pre (vs := []) OZ.out⟩, hbz.out⟩

theorem clear_lone {w : World} {g : Nat} {a b : Value} (c : Nat) (ty : TypeId) (h : Own w g 67 [a, b]) :
    (Builtin.clear_ #[81] ty #[.slice (some ⟨g, 0, none⟩) 1 c]).run Try.prog w = .ok (.tuple #[]) ((w.setCell ⟨g, 0, none⟩ (.slice none 0 0)).setCell ⟨g, 1, none⟩ (.slice none 0 0)) := clear_one (us := []) (vs := []) c ty h (o := 0) rfl

set_option maxRecDepth 100000 in
set_option maxHeartbeats 4000000 in
theorem Del1 (g : Nat) (ax bx : Option Addr) (nx cx mx dx : Nat) (d : Bool) (us : List Value) (hus : (if d then [] else [.slice ax nx cx, .slice bx mx dx]) = us) (w : World) (ho : Own w g 67 [.slice ax nx cx, .slice bx mx dx]) (h0 : Asks w (.slice ax nx cx) (.slice bx mx dx) d) :
    Calls Try.prog 119 #[.slice (some ⟨g, 0, none⟩) 1 1, .func (.func 120) #[] #[]] w (Left g us w) := by
  have hlt := ho.lt
  cases d with
  | false =>
    have HU : Hid ([.slice ax nx cx, .slice bx mx dx] = us) := hus
    clear hus
    go_enter Try.func119, Try.ntmps119
    go_wp2_with fail
    refine (IdxBox1 g 1 _ _ false (-1) rfl w ho h0).mono ?_
    rintro e1 w1 ⟨rfl, hb1⟩
    have ho := ho.keep hb1 hlt
    go_wp2_with fail
    go_ret
    exact ⟨⟨1, 1, by rw [← HU.out]; rfl, rfl, by rw [← HU.out]; exact ho⟩, below_less hb1 (by omega)⟩
  | true =>
    have HU : Hid ([] = us) := hus
    clear hus
    go_enter Try.func119, Try.ntmps119
    go_wp2_with fail
    refine (IdxBox1 g 1 _ _ true 0 rfl w ho h0).mono ?_
    rintro e1 w1 ⟨rfl, hb1⟩
    have ho := ho.keep hb1 hlt
    have hcl := fun ty => clear_lone 1 ty ho
    have OZ := Lib.hid ((ho.set (i := 0) (by simp) (.slice none 0 0)).set (i := 1) (by simp) (.slice none 0 0))
    have hbz := Lib.hid (below_set (below_set (below_less hb1 (by omega)) (Nat.le_refl g) 0 (.slice none 0 0)) (Nat.le_refl g) 1 (.slice none 0 0))
    go_wp2_with fail
    refine wp_loop_rounds 1 ?_
    rw [rounds_succ]
    go_wp2_with fail
    go_ret
    exact ⟨⟨0, 1, by rw [← HU.out]; rfl, rfl, by rw [← HU.out]; exact Own.pre (vs := []) OZ.out⟩, hbz.out⟩
end Go.Proofs.Ythkfjdhakbjllaa
