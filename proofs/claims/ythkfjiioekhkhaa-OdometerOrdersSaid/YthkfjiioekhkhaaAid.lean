/- Facts on worlds behind calls, for seats without layer 3 (the same as in Gamma2, Gamma4 and Common). No condition. -/
import Derived.Test.YthkfjiioekhkhaaShape
namespace Go.Proofs.Ythkfjiioekhkhaa
open Go.RowKit Go.Shelf
set_option linter.unusedVariables false

theorem below_grown {w w' : World} (h : w.grownBy w' none) : Below w.heap.size w w' := (Below.refl _ w).grown h (Nat.le_refl _) (fun k hk => by cases hk)
theorem cells_one (w : World) (b : Nat) (v : Value) (e : TypeId) (hb : b = w.heap.size) : Cells (w.alloc (.cells #[v] e)) (some ⟨b, 0, none⟩) [v] := by
  subst hb
  refine .inr ⟨w.heap.size, 0, rfl, by simp, fun i u hu => ?_⟩
  have := heap_alloc_new w (.cells #[v] e)
  rw [cell_of_row _ _ _ _ _ _ this]
  match i, hu with
  | 0, hu => simpa using hu

theorem below_alloc (w : World) (o : Obj) : Below w.heap.size w (w.alloc o) := (Below.refl _ _).alloc (Nat.le_refl _) _
/-- one call behind the other -/
theorem below_t {w a b : World} (h : Below w.heap.size w a) (k : Below a.heap.size a b) : Below w.heap.size w b := h.trans (k.mono h.size)
/-- a call behind the making of one block, of two, of three -/
theorem below_1 {a b : World} {o : Obj} (k : Below (a.alloc o).heap.size (a.alloc o) b) : Below a.heap.size a b := below_t (below_alloc _ _) k
theorem below_2 {a b : World} {o o' : Obj} (k : Below ((a.alloc o).alloc o').heap.size ((a.alloc o).alloc o') b) : Below a.heap.size a b := below_1 (below_1 k)
theorem below_3 {a b : World} {o o' o'' : Obj} (k : Below (((a.alloc o).alloc o').alloc o'').heap.size (((a.alloc o).alloc o').alloc o'') b) : Below a.heap.size a b := below_2 (below_1 k)

theorem Ints.drew {w : World} {p : Option Addr} {xs : List Int} (h : Ints w p xs) (n : Nat) : Ints (w.drewN n) p xs := h.keep (below_drewN _ _ _)
/-- a callee that leaves the world alone, inside a region that draws its order -/
theorem quiet_left {P : Program} {f : FuncId} {args : Array Value} {w : World} {n : Nat} {v : Value}
    (h : Calls P f args (w.drewN n) fun e w' => e = .returned v ∧ w.drewN n = w') : Calls P f args (w.drewN n) fun e w'' => e = .returned v ∧ ∃ m, w'' = w.drewN m :=
  h.mono fun _ _ ⟨he, hm⟩ => ⟨he, n, hm.symm⟩

/-- a row of the call's own: what an append of one number leaves -/
theorem below_append {w wr w1 : World} {v : Value} {o : Obj} {e : TypeId} {n : Nat} {xs : List Value} (hb : Below w.heap.size w wr) (hown : wr.ownsRow w.heap.size e 1 v n xs) (hg : (wr.alloc o).grownBy w1 v.ownBlock) : Below w.heap.size w w1 :=
  (hb.alloc hb.size o).grown hg (by simp; have := hb.size; omega) (fun k hk => (hown.lt k hk).1)
theorem below_append' {w wr w1 : World} {v : Value} {e : TypeId} {n : Nat} {xs : List Value} (hb : Below w.heap.size w wr) (hown : wr.ownsRow w.heap.size e 1 v n xs) (hg : wr.grownBy w1 v.ownBlock) : Below w.heap.size w w1 :=
  hb.grown hg hb.size (fun k hk => (hown.lt k hk).1)

theorem i64_all {xs : List Int} (h : xs.all (fun x => decide (-9223372036854775808 ≤ x ∧ x ≤ 9223372036854775807)) = true) : ∀ x ∈ xs, I64 x := by
  intro x hx
  have := List.all_eq_true.1 h x hx
  simpa [I64] using this

theorem Ints.nil (w : World) : Ints w none [] := ⟨.inl rfl, by simp, by simp⟩

theorem RefEqual_is (xs ys : List Int) (r : Bool) (hr : eqS xs ys = r) (a b : Option Addr) (c d : Nat) (w : World) (h : Ints w a xs) (h' : Ints w b ys) :
    Calls Try.prog 19 #[.slice a xs.length c, .slice b ys.length d] w fun e w' => e = .returned (.bool r) ∧ Below w.heap.size w w' :=
  (RefEqual_any a b c d xs ys w h h').mono fun e w' ⟨he, n, hw⟩ => ⟨by rw [he, hr], hw ▸ below_drewN _ _ _⟩

theorem RefCheck_is (s : List Int) (n : Int) (hn : shapeS s = n) (a : Option Addr) (c : Nat) (w : World) (h : Ints w a s) :
    Calls Try.prog 42 #[.slice a s.length c] w fun e w' => e = .returned (.int .i64 n) ∧ w = w' := by
  have := RefCheck_any a c s w h
  rw [hn] at this
  exact this

theorem RefCells_is (s : List Int) (n : Int) (hn : cellsS s = n) (a : Option Addr) (c : Nat) (w : World) (h : Ints w a s) :
    Calls Try.prog 23 #[.slice a s.length c] w fun e w' => e = .returned (.int .i64 n) ∧ w = w' := by
  have := RefCells_any a c s w h
  rw [hn] at this
  exact this
end Go.Proofs.Ythkfjiioekhkhaa
