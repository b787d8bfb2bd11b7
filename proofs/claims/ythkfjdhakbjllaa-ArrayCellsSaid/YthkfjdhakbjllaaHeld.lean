/- Facts that new memory and draws leave as they are, for regions that draw their order. No condition. -/
import Derived.Test.YthkfjdhakbjllaaGamma4
import Derived.Deep.RegionHeld3
namespace Go.Proofs.Ythkfjdhakbjllaa
open Go.RowKit Go.Shelf
set_option linter.unusedVariables false

/-- a fact that new memory and draws leave as it is -/
def Keeps (S : World → Prop) : Prop := ∀ w w', S w → Below w.heap.size w w' → S w'
theorem Keeps.and {S T : World → Prop} (h : Keeps S) (k : Keeps T) : Keeps fun w => S w ∧ T w := fun w w' ⟨a, b⟩ hb => ⟨h w w' a hb, k w w' b hb⟩
theorem keeps_cell (b o : Nat) (v : Value) : Keeps fun w => b < w.heap.size ∧ w.cell? ⟨b, o, none⟩ = some v :=
  fun w w' ⟨h, k⟩ hb => ⟨Nat.lt_of_lt_of_le h hb.size, (hb.cell (p := ⟨b, o, none⟩) h).trans k⟩
theorem keeps_cells (b : Nat) (u v : Value) : Keeps fun w => b < w.heap.size ∧ w.cell? ⟨b, 0, none⟩ = some u ∧ w.cell? ⟨b, 1, none⟩ = some v :=
  fun w w' ⟨h, k, l⟩ hb => ⟨Nat.lt_of_lt_of_le h hb.size, (hb.cell (p := ⟨b, 0, none⟩) h).trans k, (hb.cell (p := ⟨b, 1, none⟩) h).trans l⟩
theorem keeps_frozen (b o : Nat) : Keeps fun w => b < w.heap.size ∧ w.frozen? ⟨b, o, none⟩ = false :=
  fun w w' ⟨h, k⟩ hb => ⟨Nat.lt_of_lt_of_le h hb.size, (hb.frozen (p := ⟨b, o, none⟩) h).trans k⟩
theorem keeps_ints (p : Option Addr) (xs : List Int) : Keeps fun w => Ints w p xs := fun w w' h hb => h.keep hb
theorem keeps_below (w0 : World) : Keeps fun w => Below w0.heap.size w0 w := fun w w' h hb => below_t h hb
theorem keeps_true (p : Prop) : Keeps fun _ => p := fun _ _ h _ => h
theorem from_drew {w w' : World} (h : Below w.heap.size w w') : Below w.drew.heap.size w.drew w' := ⟨h.os, h.tape, h.output, h.size, h.block⟩
/-- a literal's numbers behind the draw of a region -/
theorem lit_drew (w : World) (b : Nat) (xs : List Int) (e : TypeId) (hb : b = w.heap.size) (hx : ∀ x ∈ xs, I64 x) (hs : xs.length ≤ 9223372036854775807) :
    Ints (w.alloc (.cells (xs.map (Value.int .i64)).toArray e)).drew (some ⟨b, 0, none⟩) xs := (Ints.lit w b xs e hb hx hs).keep ((Below.refl _ _).drew)
end Go.Proofs.Ythkfjdhakbjllaa
