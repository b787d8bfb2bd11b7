/- The counter as Tabulate's function value, of any array with a right shape. No condition. -/
import Derived.Test.YthkfjdhakbjllaaLaw05b
namespace Go.Proofs.Ythkfjdhakbjllaa
open Go.RowKit Go.Shelf
set_option linter.unusedVariables false

theorem nth_far {d : List Int} {k : Nat} (h : d.length ≤ k) : nth d k = 0 := by
  unfold nth
  rw [List.getD_eq_getElem?_getD, List.getElem?_eq_none h]
  rfl

set_option maxHeartbeats 800000 in
theorem call_far (g : Nat) (p q r : Option Addr) (c f e : Nat) (s d ix : List Int) (k : Nat) (hs : Shape s) (hr : roffS s ix = k) (hk : d.length ≤ k) (w : World)
    (hI : Ctr g p q c f s d k w) (h : Ints w p s) (h' : Ints w q d) (h'' : Ints w r ix) (hkb : k ≤ 100000) :
    Calls Try.prog 46 #[.pointer (some ⟨g, 0, none⟩), .slice r ix.length e] w fun z w' => z = .returned (.int .i64 0) ∧ Ctr g p q c f s d (k + 1) w' ∧ Chg (fun j => j = g) w w' := by
  have hg := hI.lt
  have hc0 := hI.cell (i := 0) rfl
  have hc1 := hI.cell (i := 1) rfl
  have hc2 := hI.cell (i := 2) rfl
  have hf2 := hI.frozen 2
  have hn := h'.small
  have Hr := Lib.hid hr
  clear hr
  go_enter Try.func46, Try.ntmps46
  go_wp2_with fail
  refine (RefOffset_is s ix k Hr.out hs _ _ _ _ _ h h'').mono ?_
  rintro e w' ⟨rfl, hb1⟩
  have hI1 : Ctr g p q c f s d k _ := Own.keep hI hb1 hg
  have hc1 := (hb1.cell (p := ⟨g, 1, none⟩) hg).trans hc1
  have hc2 := (hb1.cell (p := ⟨g, 2, none⟩) hg).trans hc2
  have hf2 := (hb1.frozen (p := ⟨g, 2, none⟩) hg).trans hf2
  have hk1 : decide ((d.length : Int) ≤ (k : Int)) = true := by simp; omega
  go_wp2_with fail
  go_ret
  refine ⟨rfl, ?_, ?_⟩
  · have := Own.set hI1 (i := 2) (by simp) (.int .i64 (k + 1))
    simpa [Ctr] using this
  · exact (Chg.of_below (S := fun j => j = g) hb1).set (p := ⟨g, 2, none⟩) rfl _

theorem call_gives2 (g : Nat) (p q : Option Addr) (c f : Nat) (s d : List Int) (n : Nat) (w : World) (hz : shapeS s = 0) (hn : cellsS s = (n : Int)) (hg : g < w.heap.size)
    (h : Ints w p s) (h' : Ints w q d) (hp : s = [] ∨ ∀ x y, p = some ⟨x, y, none⟩ → x ≠ g) (hq : d = [] ∨ ∀ x y, q = some ⟨x, y, none⟩ → x ≠ g) :
    Gives 46 #[.pointer (some ⟨g, 0, none⟩)] #[] (some g) w.heap.size
      (fun k W => Ctr g p q c f s d k W ∧ ∀ j, j < w.heap.size → j ≠ g → W.heap[j]? = w.heap[j]?) (fun k => nth d k) s n := by
  have hb := (cellsS_bd s).2
  refine ⟨?_, ?_, ?_⟩
  · rintro k W W' ⟨⟨r, hc⟩, hW⟩ hj
    exact ⟨⟨r, (hj g hg).trans hc⟩, fun j h1 h2 => (hj j h1).trans (hW j h1 h2)⟩
  · intro k hk
    by_cases hkd : k < d.length
    · exact h'.i64 _ (nth_mem hkd)
    · show I64 (nth d k)
      rw [nth_far (by omega)]
      exact ⟨by decide, by decide⟩
  · rintro k W r e hk hD ⟨hC, hW⟩ hr
    have hin : inS s (k : Int) = true := by simp [inS, hn]; omega
    obtain ⟨ho, hv, -⟩ := off_of_un hin
    have hro : roffS s (unoff s k) = k := (roffS_valid (of_decide_eq_true hv)).trans ho
    by_cases hkd : k < d.length
    · have hq' : ∀ x y, q = some ⟨x, y, none⟩ → x ≠ g := by
        rcases hq with rfl | hq
        · simp at hkd
        · exact hq
      refine (call_yes g p q r c f e s d (unoff s k) k (shapeS_zero.1 hz) hro hkd W hC (h.but hp hW) (h'.but hq hW) hr hq' (by omega)).mono ?_
      rintro z W' ⟨rfl, hC', hch⟩
      exact ⟨rfl, ⟨hC', fun j h1 h2 => (hch.block j (by omega) h2).trans (hW j h1 h2)⟩, hch.mono fun j hj => by rw [hj]⟩
    · refine (call_far g p q r c f e s d (unoff s k) k (shapeS_zero.1 hz) hro (by omega) W hC (h.but hp hW) (h'.but hq hW) hr (by omega)).mono ?_
      rintro z W' ⟨rfl, hC', hch⟩
      exact ⟨ret_int (nth_far (by omega)).symm, ⟨hC', fun j h1 h2 => (hch.block j (by omega) h2).trans (hW j h1 h2)⟩, hch.mono fun j hj => by rw [hj]⟩

/-- a row that was there keeps clear of a block that comes later -/
theorem Ints.clear {w : World} {p : Option Addr} {xs : List Int} (h : Ints w p xs) {g : Nat} (hg : w.heap.size ≤ g) : xs = [] ∨ ∀ x y, p = some ⟨x, y, none⟩ → x ≠ g := by
  rcases h.cells with h' | ⟨b, off, hp, hlt, -⟩
  · exact .inl (by simpa using h')
  · refine .inr fun x y hxy => ?_
    rw [hp] at hxy
    cases hxy
    omega
end Go.Proofs.Ythkfjdhakbjllaa
