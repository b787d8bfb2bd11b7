/- The contracts of layers 1 to 3 at arguments whose results are known. -/
import Derived.Test.YthkfjdhakbjllaaGamma4
namespace Go.Proofs.Ythkfjdhakbjllaa
open Go.RowKit Go.Shelf
set_option linter.unusedVariables false

theorem i64_all {xs : List Int} (h : xs.all (fun x => decide (-9223372036854775808 ≤ x ∧ x ≤ 9223372036854775807)) = true) : ∀ x ∈ xs, I64 x := by
  intro x hx
  have := List.all_eq_true.1 h x hx
  simpa [I64] using this

theorem Ints.nil (w : World) : Ints w none [] := ⟨.inl rfl, by simp, by simp⟩

/-- an equality test whose outcome is known -/
theorem RefEqual_is (xs ys : List Int) (r : Bool) (hr : eqS xs ys = r) (a b : Option Addr) (c d : Nat) (w : World) (h : Ints w a xs) (h' : Ints w b ys) :
    Calls Try.prog 26 #[.slice a xs.length c, .slice b ys.length d] w fun e w' => e = .returned (.bool r) ∧ Below w.heap.size w w' :=
  (RefEqual_any a b c d xs ys w h h').mono fun e w' ⟨he, n, hw⟩ => ⟨by rw [he, hr], hw ▸ below_drewN _ _ _⟩

theorem Offset_is (s ix : List Int) (n : Int) (b : Bool) (hn : offS s ix = n) (hv : decide (Valid s ix) = b) (hs : shapeS s = 0) (p q : Option Addr) (c d : Nat) (w : World) (h : Ints w p s) (h' : Ints w q ix) :
    Calls Try.prog 20 #[.slice p s.length c, .slice q ix.length d] w fun e w' => e = .returned (.tuple #[.int .i64 n, .bool b]) ∧ Below w.heap.size w w' := by
  have := Offset_any p q c d s ix w h h' (shapeS_zero.1 hs)
  rw [hn, hv] at this
  exact this

theorem Index_is (s : List Int) (n : Int) (ix : List Int) (b : Bool) (hi : ixS s n = ix) (hb : inS s n = b) (a : Option Addr) (c : Nat) (w : World) (h : Ints w a s) :
    Calls Try.prog 21 #[.slice a s.length c, .int .i64 n] w fun e w' => (∃ q c', e = .returned (.tuple #[.slice q ix.length c', .bool b]) ∧ New w.heap.size w' q 3 (ix.map (.int .i64))) ∧ Below w.heap.size w w' := by
  have := Index_any' a c s n w h
  rw [hi, hb] at this
  exact this

theorem Valid_is (s ix : List Int) (b : Bool) (hv : decide (Valid s ix) = b) (p q : Option Addr) (c d : Nat) (w : World) (h : Ints w p s) (h' : Ints w q ix) :
    Calls Try.prog 22 #[.slice p s.length c, .slice q ix.length d] w fun e w' => e = .returned (.bool b) ∧ Below w.heap.size w w' :=
  (Valid_any p q c d s ix w h h').mono fun e w' ⟨he, n, hw⟩ => ⟨by rw [he, hv], hw ▸ below_drewN _ _ _⟩

theorem Dot_is (xs ys : List Int) (n : Int) (hn : dotW xs ys 0 = n) (p q : Option Addr) (c d : Nat) (w : World) (h : Ints w p xs) (h' : Ints w q ys) :
    Calls Try.prog 29 #[.slice p xs.length c, .slice q ys.length d] w fun e w' => e = .returned (.int .i64 n) ∧ Below w.heap.size w w' :=
  (Dot_any p q c d xs ys w h h').mono fun e w' ⟨he, n, hw⟩ => ⟨by rw [he, hn], hw ▸ below_drewN _ _ _⟩

/-- the offset of the reference where there is one -/
theorem roffS_valid {s ix : List Int} (h : Valid s ix) : roffS s ix = offS s ix := by unfold roffS offS; rw [if_pos h, if_pos h]

theorem RefIndex_is (s : List Int) (n : Int) (hin : inS s n = true) (a : Option Addr) (c : Nat) (w : World) (h : Ints w a s) :
    Calls Try.prog 27 #[.slice a s.length c, .int .i64 n] w fun e w' => (∃ q c', e = .returned (.slice q (unoff s n).length c') ∧ Ints w' q (unoff s n)) ∧ Below w.heap.size w w' := by
  obtain ⟨hs, hp, -, hb, h1, h2, -⟩ := inS_shape hin
  refine (RefIndex_any a c s n w h hp hb h1 h2 hs.len).mono ?_
  rintro e w' ⟨⟨q, c', he, hnew⟩, hb'⟩
  refine ⟨⟨q, c', he, hnew.ints (fun x hx => ?_) (by rw [unoff_len]; have := hs.len; omega)⟩, hb'⟩
  have := unoff_bd hp hb h1 h2 x hx
  exact ⟨by omega, by omega⟩

theorem Index_ints (s : List Int) (n : Int) (a : Option Addr) (c : Nat) (w : World) (h : Ints w a s) :
    Calls Try.prog 21 #[.slice a s.length c, .int .i64 n] w fun e w' => (∃ q c', e = .returned (.tuple #[.slice q (ixS s n).length c', .bool (inS s n)]) ∧ Ints w' q (ixS s n)) ∧ Below w.heap.size w w' := by
  refine (Index_any' a c s n w h).mono ?_
  rintro e w' ⟨⟨q, c', he, hnew⟩, hb'⟩
  refine ⟨⟨q, c', he, hnew.ints ?_ ?_⟩, hb'⟩
  · unfold ixS
    split
    · rename_i hin
      obtain ⟨hs, hp, -, hb, h1, h2, -⟩ := inS_shape hin
      intro x hx
      have := unoff_bd hp hb h1 h2 x hx
      exact ⟨by omega, by omega⟩
    · simp
  · unfold ixS
    split
    · rename_i hin
      obtain ⟨hs, -⟩ := inS_shape hin
      rw [unoff_len]
      have := hs.len
      omega
    · simp

theorem RefValid_is (s ix : List Int) (b : Bool) (hv : decide (Valid s ix) = b) (p q : Option Addr) (c d : Nat) (w : World) (h : Ints w p s) (h' : Ints w q ix) :
    Calls Try.prog 23 #[.slice p s.length c, .slice q ix.length d] w fun e w' => e = .returned (.bool b) ∧ Below w.heap.size w w' :=
  (RefValid_any p q c d s ix w h h').mono fun e w' ⟨he, n, hw⟩ => ⟨by rw [he, hv], hw ▸ below_drewN _ _ _⟩
theorem RefOffset_is (s ix : List Int) (n : Int) (hn : roffS s ix = n) (hs : Shape s) (p q : Option Addr) (c d : Nat) (w : World) (h : Ints w p s) (h' : Ints w q ix) :
    Calls Try.prog 25 #[.slice p s.length c, .slice q ix.length d] w fun e w' => e = .returned (.int .i64 n) ∧ Below w.heap.size w w' :=
  (RefOffset_any p q c d s ix w h h' hs).mono fun e w' ⟨he, n, hw⟩ => ⟨by rw [he, hn], hw ▸ below_drewN _ _ _⟩
theorem RefIn_is (s : List Int) (n : Int) (b : Bool) (hb : inS s n = b) (a : Option Addr) (c : Nat) (w : World) (h : Ints w a s) :
    Calls Try.prog 24 #[.slice a s.length c, .int .i64 n] w fun e w' => e = .returned (.bool b) ∧ w = w' := by
  have := RefIn_any a c s n w h
  rw [hb] at this
  exact this
theorem RefCheck_is (s : List Int) (n : Int) (hn : shapeS s = n) (a : Option Addr) (c : Nat) (w : World) (h : Ints w a s) :
    Calls Try.prog 19 #[.slice a s.length c] w fun e w' => e = .returned (.int .i64 n) ∧ w = w' := by
  have := RefCheck_any a c s w h
  rw [hn] at this
  exact this

theorem off_of_un {s : List Int} {n : Int} (h : inS s n = true) : offS s (unoff s n) = n ∧ decide (Valid s (unoff s n)) = true ∧ ixS s n = unoff s n := by
  obtain ⟨hs, hp, -, hb, h1, h2, -⟩ := inS_shape h
  obtain ⟨v, o⟩ := unoff_off s hp n h1 h2
  refine ⟨?_, decide_eq_true v, ?_⟩
  · unfold offS
    rw [if_pos v, o]
  · unfold ixS
    rw [if_pos h]

theorem RefCells_is (s : List Int) (n : Int) (hn : cellsS s = n) (a : Option Addr) (c : Nat) (w : World) (h : Ints w a s) :
    Calls Try.prog 32 #[.slice a s.length c] w fun e w' => e = .returned (.int .i64 n) ∧ w = w' := by
  have := RefCells_any a c s w h
  rw [hn] at this
  exact this

theorem Index_un (s : List Int) (n : Int) (hI : inS s n = true) (a : Option Addr) (c : Nat) (w : World) (h : Ints w a s) :
    Calls Try.prog 21 #[.slice a s.length c, .int .i64 n] w fun e w' => (∃ q c', e = .returned (.tuple #[.slice q (unoff s n).length c', .bool true]) ∧ Ints w' q (unoff s n)) ∧ Below w.heap.size w w' := by
  have := Index_ints s n a c w h
  rw [(off_of_un hI).2.2, hI] at this
  exact this

theorem inS_same {s t : List Int} {n : Int} (h : cellsS s = cellsS t) (hI : inS s n = true) : inS t n = true := by
  unfold inS at hI ⊢
  rw [← h]
  exact hI


end Go.Proofs.Ythkfjdhakbjllaa
