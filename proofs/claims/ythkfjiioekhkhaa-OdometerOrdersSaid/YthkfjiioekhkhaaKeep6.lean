/- Facts that new memory and draws leave as they are, for regions that draw their order. No condition. -/
import Derived.Test.YthkfjiioekhkhaaAid
import Derived.Deep.RegionHeld3
namespace Go.Proofs.Ythkfjiioekhkhaa
open Go.RowKit Go.Shelf
set_option linter.unusedVariables false

/-- a fact that new memory and draws leave as it is -/
def Keeps (S : World → Prop) : Prop := ∀ w w', S w → Below w.heap.size w w' → S w'
theorem Keeps.and {S T : World → Prop} (h : Keeps S) (k : Keeps T) : Keeps fun w => S w ∧ T w := fun w w' ⟨a, b⟩ hb => ⟨h w w' a hb, k w w' b hb⟩
theorem keeps_cell (b o : Nat) (v : Value) : Keeps fun w => b < w.heap.size ∧ w.cell? ⟨b, o, none⟩ = some v :=
  fun w w' ⟨h, k⟩ hb => ⟨Nat.lt_of_lt_of_le h hb.size, (hb.cell (p := ⟨b, o, none⟩) h).trans k⟩
theorem keeps_cells (b : Nat) (u v : Value) : Keeps fun w => b < w.heap.size ∧ w.cell? ⟨b, 0, none⟩ = some u ∧ w.cell? ⟨b, 1, none⟩ = some v :=
  fun w w' ⟨h, k, l⟩ hb => ⟨Nat.lt_of_lt_of_le h hb.size, (hb.cell (p := ⟨b, 0, none⟩) h).trans k, (hb.cell (p := ⟨b, 1, none⟩) h).trans l⟩
theorem keeps_frozen (b o : Nat) : Keeps fun w => b < w.heap.size ∧ w.frozen? ⟨b, o, none⟩ = false :=
  fun w w' ⟨h, k⟩ hb => ⟨Nat.lt_of_lt_of_le h hb.size, (hb.frozen (p := ⟨b, o, none⟩) h).trans k⟩
theorem keeps_ints (p : Option Addr) (xs : List Int) : Keeps fun w => Ints w p xs := fun w w' h hb => h.keep hb
theorem keeps_below (w0 : World) : Keeps fun w => Below w0.heap.size w0 w := fun w w' h hb => below_t h hb
theorem keeps_true (p : Prop) : Keeps fun _ => p := fun _ _ h _ => h
theorem from_drew {w w' : World} (h : Below w.heap.size w w') : Below w.drew.heap.size w.drew w' := ⟨h.os, h.tape, h.output, h.size, h.block⟩
/-- a literal's numbers behind the draw of a region -/
theorem lit_drew (w : World) (b : Nat) (xs : List Int) (e : TypeId) (hb : b = w.heap.size) (hx : ∀ x ∈ xs, I64 x) (hs : xs.length ≤ 9223372036854775807) :
    Ints (w.alloc (.cells (xs.map (Value.int .i64)).toArray e)).drew (some ⟨b, 0, none⟩) xs := (Ints.lit w b xs e hb hx hs).keep ((Below.refl _ _).drew)

section
variable {P : Program} {md : Region.Mode} {l : List Oper} {Q : Exit → Act → World → Prop} {S : World → Prop}
/-- an operation that only reads is carried out first -/
theorem takeH (i : Nat) (d : Option Tmp) {oi : Oper} {v : Value} {fuel : Nat} {listed : Array Bool} {a : Act} {w : World} (hi : l[i]? = some oi) (hd : oi.dst = d)
    (hs : Region.noSelect l.toArray = true) (hf : Region.free md l.toArray listed i = true) (hr : (Region.ready md l.toArray listed).contains i = true)
    (hw : Region.wanted oi (yielded l.toArray a.tmps) = true) (hy : ∀ w, S w → (execOp a.eval oi).run P w = .ok (.value v) w) (hS : S w)
    (h : wpAnyH P md l.toArray (NoPanic Q) S fuel (listed.setIfInBounds i true) (a.put d v) w) : wpAnyH P md l.toArray (NoPanic Q) S (fuel + 1) listed a w := by
  subst hd
  exact wpAnyH_take (oi := oi) (by simpa using hi) hs hf hr (fun _ _ _ h => h) (Or.inl ⟨hw, hy⟩) hS h
/-- an operation whose guard says no is passed over first -/
theorem skipH (i : Nat) (d : Option Tmp) {oi : Oper} {fuel : Nat} {listed : Array Bool} {a : Act} {w : World} (hi : l[i]? = some oi) (hd : oi.dst = d)
    (hs : Region.noSelect l.toArray = true) (hf : Region.free md l.toArray listed i = true) (hr : (Region.ready md l.toArray listed).contains i = true)
    (hw : Region.wanted oi (yielded l.toArray a.tmps) = false) (hS : S w)
    (h : wpAnyH P md l.toArray (NoPanic Q) S fuel (listed.setIfInBounds i true) (a.put d undef) w) : wpAnyH P md l.toArray (NoPanic Q) S (fuel + 1) listed a w := by
  subst hd
  exact wpAnyH_take (oi := oi) (by simpa using hi) hs hf hr (fun _ _ _ h => h) (Or.inr ⟨hw, rfl⟩) hS h
/-- an operation that comes up: a call, or what makes memory -/
theorem stepH (i : Nat) {o : Oper} {fuel : Nat} {listed : Array Bool} {a : Act} {w : World} {rs : List Nat} (hi : l[i]? = some o) (hw : Region.wanted o (yielded l.toArray a.tmps) = true)
    (h : ∀ K' : Act → World → Prop, Shut (∀ a w, S w → (S w → wpAnyH P md l.toArray Q S fuel (listed.setIfInBounds i true) a w) → K' a w) → Oper.wp P o a w K' Q)
    (hs : AllReadyH P md l.toArray Q S fuel listed a w rs) : AllReadyH P md l.toArray Q S fuel listed a w (i :: rs) :=
  AllReadyH.cons (o := o) (by simpa using hi) (fun K' hK => by rw [if_pos hw]; exact h K' hK) hs
end
end Go.Proofs.Ythkfjiioekhkhaa
