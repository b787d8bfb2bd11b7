/- What the counter's call returns: the counting function value of law ArrayTabulates. -/
import Derived.Test.YthkfjdhakbjllaaRef05c
namespace Go.Proofs.Ythkfjdhakbjllaa
open Go.RowKit Go.Shelf
set_option linter.unusedVariables false

/-- the counter in block g after k calls -/
def Ctr (g : Nat) (p q : Option Addr) (c f : Nat) (s d : List Int) (k : Nat) (W : World) : Prop :=
  Own W g 61 [.slice p s.length c, .slice q d.length f, .int .i64 k, .bool false]

set_option maxHeartbeats 800000 in
theorem call_yes (g : Nat) (p q r : Option Addr) (c f e : Nat) (s d ix : List Int) (k : Nat) (hs : Shape s) (hr : roffS s ix = k) (hk : k < d.length) (w : World)
    (hI : Ctr g p q c f s d k w) (h : Ints w p s) (h' : Ints w q d) (h'' : Ints w r ix) (hq : ∀ x y, q = some ⟨x, y, none⟩ → x ≠ g) (hkb : k ≤ 100000) :
    Calls Try.prog 46 #[.pointer (some ⟨g, 0, none⟩), .slice r ix.length e] w fun z w' => z = .returned (.int .i64 (nth d k)) ∧ Ctr g p q c f s d (k + 1) w' ∧ Chg (fun j => j = g) w w' := by
  have hg := hI.lt
  have hc0 := hI.cell (i := 0) rfl
  have hc1 := hI.cell (i := 1) rfl
  have hc2 := hI.cell (i := 2) rfl
  have hf2 := hI.frozen 2
  have hn := h'.small
  have Hr := Lib.hid hr
  clear hr
  go_enter Try.func46, Try.ntmps46
  go_wp2_with fail
  refine (RefOffset_is s ix k Hr.out hs _ _ _ _ _ h h'').mono ?_
  rintro e w' ⟨rfl, hb1⟩
  have hI1 : Ctr g p q c f s d k _ := Own.keep hI hb1 hg
  have hc1 := (hb1.cell (p := ⟨g, 1, none⟩) hg).trans hc1
  have hc2 := (hb1.cell (p := ⟨g, 2, none⟩) hg).trans hc2
  have hf2 := (hb1.frozen (p := ⟨g, 2, none⟩) hg).trans hf2
  obtain ⟨b1, o1, rfl, -, hc⟩ := (h'.keep hb1).at hk
  have hbg : b1 ≠ g := hq _ _ rfl
  go_wp2_with fail
  go_ret
  refine ⟨rfl, ?_, ?_⟩
  · have := Own.set hI1 (i := 2) (by simp) (.int .i64 (k + 1))
    simpa [Ctr] using this
  · exact (Chg.of_below (S := fun j => j = g) hb1).set (p := ⟨g, 2, none⟩) rfl _
end Go.Proofs.Ythkfjdhakbjllaa
