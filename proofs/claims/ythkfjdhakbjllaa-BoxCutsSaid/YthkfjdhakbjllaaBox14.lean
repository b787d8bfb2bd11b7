/- Lists of rows of numbers in memory. No condition beyond what each says. -/
import Derived.Test.YthkfjdhakbjllaaBox13
namespace Go.Proofs.Ythkfjdhakbjllaa
open Go.RowKit Go.Shelf
set_option linter.unusedVariables false

/-- a row: where it lies, its capacity, its numbers -/
structure RowV where
  p : Option Addr
  c : Nat
  v : List Int
def RowV.cell (r : RowV) : Value := .slice r.p r.v.length r.c
/-- rows in blocks from B on, no two with numbers in one block -/
structure Rows6 (B : Nat) (w : World) (rs : List RowV) : Prop where
  new : ∀ r ∈ rs, New B w r.p 3 (r.v.map (.int .i64))
  apart : ∀ i j : Nat, i < j → ∀ a b : RowV, rs[i]? = some a → rs[j]? = some b → a.v ≠ [] → b.v ≠ [] → a.p ≠ b.p
theorem Rows6.nil (B : Nat) (w : World) : Rows6 B w [] := ⟨(fun r hr => by cases hr), (fun i j _ a b h => by simp at h)⟩
theorem Rows6.keep {B : Nat} {a b : World} {rs : List RowV} (h : Rows6 B a rs) (hb : Below a.heap.size a b) : Rows6 B b rs := ⟨fun r hr => (h.new r hr).keep' hb, h.apart⟩
/-- a row made after the others lies apart from them -/
theorem Rows6.snoc {B B' : Nat} {w : World} {rs : List RowV} (h : Rows6 B w rs) {r : RowV} (hB : B ≤ B') (hlt : ∀ a : RowV, a ∈ rs → ∀ g, a.p = some ⟨g, 0, none⟩ → a.v ≠ [] → g < B') (hr : New B' w r.p 3 (r.v.map (.int .i64))) : Rows6 B w (rs ++ [r]) := by
  refine ⟨fun x hx => ?_, fun i j hij a b ha hb hav hbv => ?_⟩
  · rcases List.mem_append.1 hx with hx | hx
    · exact h.new x hx
    · rw [List.mem_singleton] at hx
      subst hx
      exact hr.mono hB
  · have hj := (List.getElem?_eq_some_iff.1 hb).1
    rw [List.length_append, List.length_singleton] at hj
    by_cases hjl : j < rs.length
    · rw [List.getElem?_append_left hjl] at hb
      rw [List.getElem?_append_left (by omega)] at ha
      exact h.apart i j hij a b ha hb hav hbv
    · have hje : j = rs.length := by omega
      subst hje
      rw [List.getElem?_append_left (by omega)] at ha
      have hbr : b = r := by simpa using hb.symm
      subst hbr
      have hma : a ∈ rs := List.mem_of_getElem? ha
      intro e
      rcases hr with hr | ⟨g, hp, hg, -⟩
      · exact hbv (by simpa using hr)
      · have := hlt a hma g (e.trans hp) hav
        omega
end Go.Proofs.Ythkfjdhakbjllaa
