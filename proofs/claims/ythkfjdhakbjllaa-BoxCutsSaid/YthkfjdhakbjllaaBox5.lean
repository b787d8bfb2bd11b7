/- Boxes that are right and small. No condition beyond what each says. -/
import Derived.Test.YthkfjdhakbjllaaBox4
namespace Go.Proofs.Ythkfjdhakbjllaa
open Go.RowKit Go.Shelf
set_option linter.unusedVariables false
set_option linter.unusedSimpArgs false

def smallX (lo hi : List Int) (most : Int) : Bool := rightX lo hi && decide (FewX lo hi most)
theorem RefRight_is (p q : Option Addr) (c f : Nat) (lo hi : List Int) (r : Bool) (hr : rightX lo hi = r) (w : World) (h : Ints w p lo) (h' : Ints w q hi) :
    Calls Try.prog 52 #[.agg #[.slice p lo.length c, .slice q hi.length f]] w fun e w' => e = .returned (.bool r) ∧ Below w.heap.size w w' := hr ▸ RefBoxRight_any p q c f lo hi w h h'
theorem RefSmall6_any (p q : Option Addr) (c f : Nat) (lo hi : List Int) (most : Int) (hm : 0 ≤ most ∧ most ≤ 100000) (r : Bool) (hr : smallX lo hi most = r) (w : World) (h : Ints w p lo) (h' : Ints w q hi) :
    Calls Try.prog 53 #[.agg #[.slice p lo.length c, .slice q hi.length f], .int .i64 most] w fun e w' => e = .returned (.bool r) ∧ Below w.heap.size w w' := by
  have HR := Lib.hid hr
  clear hr
  have b1 := below_alloc w (.cells #[.slice p lo.length c, .slice q hi.length f] 65)
  have h1 := h.keep b1
  have h2 := h'.keep b1
  cases hs : rightX lo hi with
  | false =>
    have HN : Hid (r = false) := by rw [← HR.out]; simp [Hid, smallX, hs]
    go_enter Try.func53, Try.ntmps53
    go_wp2_with fail
    refine (RefRight_is _ _ _ _ lo hi false hs _ h1 h2).mono ?_
    rintro e1 w1 ⟨rfl, hb1⟩
    go_wp2_with fail
    go_ret
    exact ⟨ret_bool HN.out.symm, below_1 hb1⟩
  | true =>
    obtain ⟨b, hb⟩ : ∃ b, decide (FewX lo hi most) = b := ⟨_, rfl⟩
    have HN : Hid (r = b) := by rw [← HR.out]; simp [Hid, smallX, hs, ← hb]
    have HF := Lib.hid hb
    clear hb
    go_enter Try.func53, Try.ntmps53
    go_wp2_with fail
    refine (RefRight_is _ _ _ _ lo hi true hs _ h1 h2).mono ?_
    rintro e1 w1 ⟨rfl, hb1⟩
    have hb := below_1 hb1
    have hx0 : w1.cell? ⟨w.heap.size, 0, none⟩ = some (.slice p lo.length c) := (hb1.cell (p := ⟨w.heap.size, 0, none⟩) (by simp)).trans (by simp [go_sem])
    have hx1 : w1.cell? ⟨w.heap.size, 1, none⟩ = some (.slice q hi.length f) := (hb1.cell (p := ⟨w.heap.size, 1, none⟩) (by simp)).trans (by simp [go_sem])
    have h1 := h1.keep hb1
    have h2 := h2.keep hb1
    clear hb1
    go_wp2_with fail
    refine (RefFew4_any _ _ _ _ lo hi most hm b HF.out _ h1 h2).mono ?_
    rintro e2 w2 ⟨rfl, hb2⟩
    go_wp2_with fail
    go_ret
    exact ⟨ret_bool HN.out.symm, below_t hb hb2⟩
end Go.Proofs.Ythkfjdhakbjllaa
