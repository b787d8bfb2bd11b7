/- Parts for a seat without packages size and shape. No condition beyond what each says. -/
import Derived.Test.YtjehgcmcphgofaaOwn
import Derived.Test.YtjehgcmcphgofaaApp
import Derived.Deep.RegionHeld3
import Derived.BigQuiet
namespace Go.Proofs.Ytjehgcmcphgofaa
open Go.RowKit Go.Shelf
set_option linter.unusedVariables false
set_option linter.unusedSimpArgs false

theorem nth_map {xs : List Int} {k : Nat} (hk : k < xs.length) : (xs.map (Value.int .i64))[k]? = some (.int .i64 (nth xs k)) := by
  simp [nth_get? hk]
theorem map_set (xs : List Int) (k : Nat) (v : Int) : (xs.map (Value.int .i64)).set k (.int .i64 v) = (xs.set k v).map (.int .i64) := by
  rw [List.map_set]
theorem nth_set {xs : List Int} {k : Nat} (hk : k < xs.length) (v : Int) : nth (xs.set k v) k = v := by
  unfold nth
  simp [List.getD_eq_getElem?_getD, hk]
theorem nth_set_ne {xs : List Int} {j k : Nat} (h : j ≠ k) (v : Int) : nth (xs.set k v) j = nth xs j := by
  unfold nth
  simp [List.getD_eq_getElem?_getD, List.getElem?_set_ne (Ne.symm h)]
theorem below_grown {w w' : World} (h : w.grownBy w' none) : Below w.heap.size w w' := (Below.refl _ w).grown h (Nat.le_refl _) (fun k hk => by cases hk)
theorem cells_one (w : World) (b : Nat) (v : Value) (e : TypeId) (hb : b = w.heap.size) : Cells (w.alloc (.cells #[v] e)) (some ⟨b, 0, none⟩) [v] := by
  subst hb
  refine .inr ⟨w.heap.size, 0, rfl, by simp, fun i u hu => ?_⟩
  have := heap_alloc_new w (.cells #[v] e)
  rw [cell_of_row _ _ _ _ _ _ this]
  match i, hu with
  | 0, hu => simpa using hu
theorem below_alloc (w : World) (o : Obj) : Below w.heap.size w (w.alloc o) := (Below.refl _ _).alloc (Nat.le_refl _) _
/-- one call behind the other -/
theorem below_t {w a b : World} (h : Below w.heap.size w a) (k : Below a.heap.size a b) : Below w.heap.size w b := h.trans (k.mono h.size)
/-- a call behind the making of one block, of two, of three -/
theorem below_1 {a b : World} {o : Obj} (k : Below (a.alloc o).heap.size (a.alloc o) b) : Below a.heap.size a b := below_t (below_alloc _ _) k
theorem below_2 {a b : World} {o o' : Obj} (k : Below ((a.alloc o).alloc o').heap.size ((a.alloc o).alloc o') b) : Below a.heap.size a b := below_1 (below_1 k)
theorem below_3 {a b : World} {o o' o'' : Obj} (k : Below (((a.alloc o).alloc o').alloc o'').heap.size (((a.alloc o).alloc o').alloc o'') b) : Below a.heap.size a b := below_2 (below_1 k)
theorem Ints.drew {w : World} {p : Option Addr} {xs : List Int} (h : Ints w p xs) (n : Nat) : Ints (w.drewN n) p xs := h.keep (below_drewN _ _ _)
/-- a callee that leaves the world alone, inside a region that draws its order -/
theorem quiet_left {P : Program} {f : FuncId} {args : Array Value} {w : World} {n : Nat} {v : Value}
    (h : Calls P f args (w.drewN n) fun e w' => e = .returned v ∧ w.drewN n = w') : Calls P f args (w.drewN n) fun e w'' => e = .returned v ∧ ∃ m, w'' = w.drewN m :=
  h.mono fun _ _ ⟨he, hm⟩ => ⟨he, n, hm.symm⟩
/-- a row of the call's own: what an append of one number leaves -/
theorem below_append {w wr w1 : World} {v : Value} {o : Obj} {e : TypeId} {n : Nat} {xs : List Value} (hb : Below w.heap.size w wr) (hown : wr.ownsRow w.heap.size e 1 v n xs) (hg : (wr.alloc o).grownBy w1 v.ownBlock) : Below w.heap.size w w1 :=
  (hb.alloc hb.size o).grown hg (by simp; have := hb.size; omega) (fun k hk => (hown.lt k hk).1)
theorem below_append' {w wr w1 : World} {v : Value} {e : TypeId} {n : Nat} {xs : List Value} (hb : Below w.heap.size w wr) (hown : wr.ownsRow w.heap.size e 1 v n xs) (hg : wr.grownBy w1 v.ownBlock) : Below w.heap.size w w1 :=
  hb.grown hg hb.size (fun k hk => (hown.lt k hk).1)
theorem i64_all {xs : List Int} (h : xs.all (fun x => decide (-9223372036854775808 ≤ x ∧ x ≤ 9223372036854775807)) = true) : ∀ x ∈ xs, I64 x := by
  intro x hx
  have := List.all_eq_true.1 h x hx
  simpa [I64] using this
theorem Ints.nil (w : World) : Ints w none [] := ⟨.inl rfl, by simp, by simp⟩
/-- a fact that new memory and draws leave as it is -/
def Keeps (S : World → Prop) : Prop := ∀ w w', S w → Below w.heap.size w w' → S w'
theorem Keeps.and {S T : World → Prop} (h : Keeps S) (k : Keeps T) : Keeps fun w => S w ∧ T w := fun w w' ⟨a, b⟩ hb => ⟨h w w' a hb, k w w' b hb⟩
theorem keeps_cell (b o : Nat) (v : Value) : Keeps fun w => b < w.heap.size ∧ w.cell? ⟨b, o, none⟩ = some v :=
  fun w w' ⟨h, k⟩ hb => ⟨Nat.lt_of_lt_of_le h hb.size, (hb.cell (p := ⟨b, o, none⟩) h).trans k⟩
theorem keeps_cells (b : Nat) (u v : Value) : Keeps fun w => b < w.heap.size ∧ w.cell? ⟨b, 0, none⟩ = some u ∧ w.cell? ⟨b, 1, none⟩ = some v :=
  fun w w' ⟨h, k, l⟩ hb => ⟨Nat.lt_of_lt_of_le h hb.size, (hb.cell (p := ⟨b, 0, none⟩) h).trans k, (hb.cell (p := ⟨b, 1, none⟩) h).trans l⟩
theorem keeps_frozen (b o : Nat) : Keeps fun w => b < w.heap.size ∧ w.frozen? ⟨b, o, none⟩ = false :=
  fun w w' ⟨h, k⟩ hb => ⟨Nat.lt_of_lt_of_le h hb.size, (hb.frozen (p := ⟨b, o, none⟩) h).trans k⟩
theorem keeps_ints (p : Option Addr) (xs : List Int) : Keeps fun w => Ints w p xs := fun w w' h hb => h.keep hb
theorem keeps_below (w0 : World) : Keeps fun w => Below w0.heap.size w0 w := fun w w' h hb => below_t h hb
theorem keeps_true (p : Prop) : Keeps fun _ => p := fun _ _ h _ => h
theorem from_drew {w w' : World} (h : Below w.heap.size w w') : Below w.drew.heap.size w.drew w' := ⟨h.os, h.tape, h.output, h.size, h.block⟩
/-- a literal's numbers behind the draw of a region -/
theorem lit_drew (w : World) (b : Nat) (xs : List Int) (e : TypeId) (hb : b = w.heap.size) (hx : ∀ x ∈ xs, I64 x) (hs : xs.length ≤ 9223372036854775807) :
    Ints (w.alloc (.cells (xs.map (Value.int .i64)).toArray e)).drew (some ⟨b, 0, none⟩) xs := (Ints.lit w b xs e hb hx hs).keep ((Below.refl _ _).drew)

section
variable {P : Program} {md : Region.Mode} {l : List Oper} {Q : Exit → Act → World → Prop} {S : World → Prop}
/-- an operation that only reads is carried out first -/
theorem takeH (i : Nat) (d : Option Tmp) {oi : Oper} {v : Value} {fuel : Nat} {listed : Array Bool} {a : Act} {w : World} (hi : l[i]? = some oi) (hd : oi.dst = d)
    (hs : Region.noSelect l.toArray = true) (hf : Region.free md l.toArray listed i = true) (hr : (Region.ready md l.toArray listed).contains i = true)
    (hw : Region.wanted oi (yielded l.toArray a.tmps) = true) (hy : ∀ w, S w → (execOp a.eval oi).run P w = .ok (.value v) w) (hS : S w)
    (h : wpAnyH P md l.toArray (NoPanic Q) S fuel (listed.setIfInBounds i true) (a.put d v) w) : wpAnyH P md l.toArray (NoPanic Q) S (fuel + 1) listed a w := by
  subst hd
  exact wpAnyH_take (oi := oi) (by simpa using hi) hs hf hr (fun _ _ _ h => h) (Or.inl ⟨hw, hy⟩) hS h
/-- an operation whose guard says no is passed over first -/
theorem skipH (i : Nat) (d : Option Tmp) {oi : Oper} {fuel : Nat} {listed : Array Bool} {a : Act} {w : World} (hi : l[i]? = some oi) (hd : oi.dst = d)
    (hs : Region.noSelect l.toArray = true) (hf : Region.free md l.toArray listed i = true) (hr : (Region.ready md l.toArray listed).contains i = true)
    (hw : Region.wanted oi (yielded l.toArray a.tmps) = false) (hS : S w)
    (h : wpAnyH P md l.toArray (NoPanic Q) S fuel (listed.setIfInBounds i true) (a.put d undef) w) : wpAnyH P md l.toArray (NoPanic Q) S (fuel + 1) listed a w := by
  subst hd
  exact wpAnyH_take (oi := oi) (by simpa using hi) hs hf hr (fun _ _ _ h => h) (Or.inr ⟨hw, rfl⟩) hS h
/-- an operation that comes up: a call, or what makes memory -/
theorem stepH (i : Nat) {o : Oper} {fuel : Nat} {listed : Array Bool} {a : Act} {w : World} {rs : List Nat} (hi : l[i]? = some o) (hw : Region.wanted o (yielded l.toArray a.tmps) = true)
    (h : ∀ K' : Act → World → Prop, Shut (∀ a w, S w → (S w → wpAnyH P md l.toArray Q S fuel (listed.setIfInBounds i true) a w) → K' a w) → Oper.wp P o a w K' Q)
    (hs : AllReadyH P md l.toArray Q S fuel listed a w rs) : AllReadyH P md l.toArray Q S fuel listed a w (i :: rs) :=
  AllReadyH.cons (o := o) (by simpa using hi) (fun K' hK => by rw [if_pos hw]; exact h K' hK) hs
end
end Go.Proofs.Ytjehgcmcphgofaa
