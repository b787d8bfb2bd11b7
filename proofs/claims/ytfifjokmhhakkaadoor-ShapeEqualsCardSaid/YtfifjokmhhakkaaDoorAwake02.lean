/- The fixed results of layer 2 (shape). No condition beyond what each says. -/
import Derived.Test.YtfifjokmhhakkaaDoorEdit3
import Derived.Test.YtfifjokmhhakkaaDoorText1
namespace Go.Proofs.YtfifjokmhhakkaaDoor
open Go.RowKit Go.Shelf
set_option linter.unusedVariables false
set_option linter.unusedSimpArgs false

theorem ints_lit (w : World) (xs : List Int) (h : xs.all (fun x => decide (-9223372036854775808 ≤ x ∧ x ≤ 9223372036854775807)) = true) (hl : xs.length ≤ 1000) : Ints (w.alloc (.cells (xs.map (.int .i64)).toArray 3)) (some ⟨w.heap.size, 0, none⟩) xs :=
  New.ints (B := 0) (e := 3) (.inr ⟨w.heap.size, rfl, Nat.zero_le _, Own.made w _ _ _ rfl⟩) (i64_all h) (by omega)
theorem ShapeEqual_is (xs ys : List Int) (r : Bool) (hr : eqS xs ys = r) (a b : Option Addr) (c d : Nat) (w : World) (h : Ints w a xs) (h' : Ints w b ys) :
    Calls Tryd.prog 13 #[.slice a xs.length c, .slice b ys.length d] w fun e w' => e = .returned (.bool r) ∧ Below w.heap.size w w' :=
  (ShapeEqual_any a b c d xs ys w h h').mono fun e w' ⟨he, n, hw⟩ => ⟨by rw [he, hr], hw ▸ below_drewN _ _ _⟩
theorem edit_ints {L : List Int} {n : Nat} {w : World} {e : Ending} {w' : World} (hL : ∀ x ∈ L, I64 x) (hl : L.length ≤ 1000000) (h : EditRet L n w e w') : (∃ q cap, e = .returned (.tuple #[.slice q n cap, .int .i64 0]) ∧ Ints w' q L ∧ Bds q n cap) ∧ Below w.heap.size w w' := by
  obtain ⟨⟨q, cap, he, hn, hbd⟩, hb⟩ := h
  exact ⟨⟨q, cap, he, hn.ints hL (by omega), hbd⟩, hb⟩
theorem a02_ins (p : Option Addr) (c : Nat) (hb : Bds p 3 c) (w : World) (h : Ints w p [2, 3, 4]) :
    Calls Tryd.prog 20 #[.slice p 3 c, .int .i64 3, .int .i64 9] w fun e w' => (∃ q cap, e = .returned (.tuple #[.slice q 4 cap, .int .i64 0]) ∧ Ints w' q [2, 3, 4, 9] ∧ Bds q 4 cap) ∧ Below w.heap.size w w' :=
  (Insert_yes p c [2, 3, 4] 3 [2, 3, 4, 9] (by decide) (by decide) hb 9 (by unfold I64; omega) rfl w h).mono fun e w' hr => edit_ints (i64_all (by decide)) (by decide) hr
theorem a02_rem (p : Option Addr) (c : Nat) (hb : Bds p 3 c) (w : World) (h : Ints w p [2, 3, 4]) :
    Calls Tryd.prog 21 #[.slice p 3 c, .int .i64 0] w fun e w' => (∃ q cap, e = .returned (.tuple #[.slice q 2 cap, .int .i64 0]) ∧ Ints w' q [3, 4] ∧ Bds q 2 cap) ∧ Below w.heap.size w w' :=
  (Remove_yes p c [2, 3, 4] 0 [3, 4] (by decide) (by decide) hb rfl w h).mono fun e w' hr => edit_ints (i64_all (by decide)) (by decide) hr
theorem a02_rep (p : Option Addr) (c : Nat) (hb : Bds p 3 c) (w : World) (h : Ints w p [2, 3, 4]) :
    Calls Tryd.prog 19 #[.slice p 3 c, .int .i64 1, .int .i64 7] w fun e w' => (∃ q cap, e = .returned (.tuple #[.slice q 3 cap, .int .i64 0]) ∧ Ints w' q [2, 7, 4] ∧ Bds q 3 cap) ∧ Below w.heap.size w w' :=
  (Replace_yes p c [2, 3, 4] 1 [2, 7, 4] (by decide) (by decide) hb 7 (by unfold I64; omega) rfl w h).mono fun e w' hr => edit_ints (i64_all (by decide)) (by decide) hr
theorem a02_rep3 (p : Option Addr) (c : Nat) (w : World) :
    Calls Tryd.prog 19 #[.slice p 3 c, .int .i64 3, .int .i64 7] w fun e w' => e = .returned (.tuple #[.slice none 0 0, .int .i64 4]) ∧ Below w.heap.size w w' :=
  Replace_no p c 3 3 (by decide) (.inr (by decide)) (by unfold I64; omega) 7 w
theorem a02_text (p : Option Addr) (c : Nat) (w : World) (h : Ints w p [2, 3, 4]) :
    Calls Tryd.prog 15 #[.slice p 3 c] w fun e w' => e = .returned (.string ⟨#[50, 32, 51, 32, 52]⟩) ∧ Below w.heap.size w w' := by
  refine Text_any (fun i => [UInt8.ofNat (48 + i.toNat)]) p c [2, 3, 4] (by decide) (by decide) w h ?_
  intro k hk z hz
  have hx : ∃ i : Nat, i < 100 ∧ nth [2, 3, 4] k = i ∧ Lib.decDigits i = [UInt8.ofNat (48 + i)] := by
    match k, hk with
    | 0, _ => exact ⟨2, by decide, rfl, by kernel_rfl⟩
    | 1, _ => exact ⟨3, by decide, rfl, by kernel_rfl⟩
    | 2, _ => exact ⟨4, by decide, rfl, by kernel_rfl⟩
  obtain ⟨i, hi, e, hd⟩ := hx
  rw [e]
  have hI := Tryd.strconv_Itoa_small i hi z
  rw [hd] at hI
  refine hI.mono ?_
  rintro e w' ⟨rfl, rfl⟩
  exact ⟨rfl, Below.refl _ _⟩
theorem a02_cells (p : Option Addr) (c : Nat) (w : World) (h : Ints w p [2, 3, 4]) : Calls Tryd.prog 11 #[.slice p 3 c] w fun e w' => e = .returned (.int .i64 24) ∧ w = w' := ShapeCells_any p c [2, 3, 4] w h
theorem a02_cells0 (w : World) : Calls Tryd.prog 11 #[.slice none 0 0] w fun e w' => e = .returned (.int .i64 1) ∧ w = w' := ShapeCells_any none 0 [] w (Ints.nil w)
theorem a02_check (p : Option Addr) (c : Nat) (w : World) (h : Ints w p [2, 3, 4]) : Calls Tryd.prog 16 #[.slice p 3 c] w fun e w' => e = .returned (.int .i64 0) ∧ w = w' := ShapeCheck_any p c [2, 3, 4] w h
theorem a02_check1 (p : Option Addr) (c : Nat) (w : World) (h : Ints w p [-1]) : Calls Tryd.prog 16 #[.slice p 1 c] w fun e w' => e = .returned (.int .i64 6) ∧ Below w.heap.size w w' := (ShapeCheck_any p c [-1] w h).mono fun e w' ⟨he, hw⟩ => ⟨he, hw ▸ Below.refl _ _⟩
theorem a02_check2 (p : Option Addr) (c : Nat) (w : World) (h : Ints w p [65537]) : Calls Tryd.prog 16 #[.slice p 1 c] w fun e w' => e = .returned (.int .i64 7) ∧ Below w.heap.size w w' := (ShapeCheck_any p c [65537] w h).mono fun e w' ⟨he, hw⟩ => ⟨he, hw ▸ Below.refl _ _⟩
theorem a02_strides (p : Option Addr) (c : Nat) (w : World) (h : Ints w p [2, 3, 4]) : Calls Tryd.prog 10 #[.slice p 3 c] w fun e w' => (∃ q cap, e = .returned (.slice q 3 cap) ∧ Ints w' q [12, 4, 1]) ∧ Below w.heap.size w w' :=
  (Strides_any p c [2, 3, 4] w h).mono fun e w' ⟨⟨q, cap, he, hn⟩, hb⟩ => ⟨⟨q, cap, he, hn.ints (i64_all (by decide)) (by decide)⟩, hb⟩
theorem a02_eq (xs : List Int) (n : Nat) (hn : xs.length = n) (a b : Option Addr) (c d : Nat) (w : World) (h : Ints w a xs) (h' : Ints w b xs) :
    Calls Tryd.prog 14 #[.slice a n c, .slice b n d] w fun e w' => e = .returned (.bool true) ∧ Below w.heap.size w w' := by
  subst hn
  exact RefEqual_is xs xs true (by simp [eqS]) a b c d w h h'
end Go.Proofs.YtfifjokmhhakkaaDoor
