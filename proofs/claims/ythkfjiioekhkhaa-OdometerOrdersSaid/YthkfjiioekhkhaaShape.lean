/- What the functions of package shape return: Check, Cells, Equal, Strides, at all lists (a list of any length for the first three; Strides makes its row). -/
import Derived.Test.YthkfjiioekhkhaaRef02
import Derived.Test.YthkfjiioekhkhaaShapePlain
import Derived.Test.YthkfjiioekhkhaaOwn
namespace Go.Proofs.Ythkfjiioekhkhaa
open Go.RowKit Go.Shelf

theorem shapeS_of {s : List Int} {p q : Int} (h : prodR s = (p, q)) : shapeS s = if q ≠ 6 ∧ 16 < s.length then 7 else q := by
  unfold shapeS
  rw [h]
  cases hn : s.any neg with
  | true =>
    have := prodR_neg hn
    rw [h] at this
    cases this
    simp
  | false =>
    have := prodR_six s hn
    rw [h] at this
    simp only [Bool.false_eq_true, if_false]
    by_cases hl : 16 < s.length
    · rw [if_pos hl, if_pos ⟨by simp at this; omega, hl⟩]
    · rw [if_neg hl, if_neg (fun h => hl h.2)]

theorem sizeProduct_is (xs : List Int) (p q : Int) (hr : prodR xs = (p, q)) (a : Option Addr) (c : Nat) (w : World) (h : Ints w a xs) :
    Calls Try.prog 25 #[.slice a xs.length c] w fun e w' => e = .returned (.tuple #[.int .i64 p, .int .i64 q]) ∧ w = w' := by
  have := Product_any a c xs w h
  rw [hr] at this
  exact this




/-- the strides of a shape: none without a right shape, zeros without cells -/
def strideS (s : List Int) : List Int := if shapeS s = 0 then (if cellsS s = 0 then List.replicate s.length 0 else strs s) else []

theorem Shape.pos {s : List Int} (h : Shape s) (hc : cellsS s ≠ 0) : (∀ x ∈ s, 0 < x) ∧ prod s = cellsS s ∧ prod s ≤ 65536 := by
  have hz : (0 : Int) ∉ s := fun hz => hc (h.cells.2.1 hz)
  obtain ⟨h1, h2, h3⟩ := h.cells.2.2 hz
  have := prodL_prod s 1 _ h1
  refine ⟨fun x hx => ?_, by omega, by omega⟩
  have := h.dims x hx
  have : x ≠ 0 := fun e => hz (e ▸ hx)
  omega

theorem prod_drop_step {s : List Int} {k : Nat} (hk : k < s.length) : prod (s.drop k) = prod (s.drop (k + 1)) * nth s k := by
  rw [drop_nth hk, prod_cons, Int.mul_comm]

theorem strs_i64 {s : List Int} (h : ∀ x ∈ s, 0 < x) (hp : prod s ≤ 65536) : ∀ x ∈ strs s, 0 < x ∧ x ≤ 65536 := by
  intro x hx
  obtain ⟨k, hk, rfl⟩ := List.getElem_of_mem hx
  have e := nth_get? hk
  rw [List.getElem?_eq_getElem hk] at e
  rw [strs_len] at hk
  rw [Option.some.inj e, strs_nth s k hk]
  have h1 := prod_drop_le h (k + 1)
  have h2 := prod_pos (l := s.drop (k + 1)) fun x hx => h x (List.mem_of_mem_drop hx)
  omega

theorem strideS_i64 (s : List Int) : ∀ x ∈ strideS s, I64 x := by
  unfold strideS
  split
  · rename_i h0
    have hs := shapeS_zero.1 h0
    split
    · intro x hx
      have := List.eq_of_mem_replicate hx
      subst this
      exact ⟨by omega, by omega⟩
    · rename_i hc
      obtain ⟨h1, h2, h3⟩ := hs.pos hc
      intro x hx
      have := strs_i64 h1 h3 x hx
      exact ⟨by omega, by omega⟩
  · intro x hx
    cases hx

theorem strideS_len (s : List Int) : (strideS s).length ≤ s.length := by
  unfold strideS
  split
  · split
    · simp
    · rw [strs_len]; exact Nat.le_refl _
  · simp

end Go.Proofs.Ythkfjiioekhkhaa
