/- ShapeRight, walked. No condition. -/
import Derived.Test.YtfifjokmhhakkaaDoorLaw02b
import Derived.Test.YtfifjokmhhakkaaDoorRefStr
import Derived.Test.YtfifjokmhhakkaaDoorDec
import Derived.Test.YtfifjokmhhakkaaDoorText1
import Derived.Lib.LaidTab
import Derived.MakeChecks
import Derived.Stop.LaidErr
namespace Go.Proofs.YtfifjokmhhakkaaDoor
open Go.RowKit Go.Shelf Go.Sort
set_option linter.unusedVariables false
set_option linter.unusedSimpArgs false

theorem below_grow0 (w : World) (k : Nat) (os : Array Obj) : Below w.heap.size w (grow (w.drewN k) os) :=
  ⟨rfl, rfl, rfl, by show w.heap.size ≤ (w.heap ++ os).size; rw [Array.size_append]; omega, fun j hj => by
    show (w.heap ++ os)[j]? = w.heap[j]?
    rw [Array.getElem?_append_left hj]⟩
def Pow (w : World) : Prop := Lib.TabIs Tryd.prog w "internal/strconv.uint64pow10" .u64 Lib.pow10Tab
theorem Pow.keep {w w' : World} (h : Pow w) (hb : Below w.heap.size w w') : Pow w' := by
  have hg : Tryd.prog.globalNamed "internal/strconv.uint64pow10" = some 0 := by kernel_rfl
  unfold Pow Lib.TabIs World.var? at h ⊢
  rw [hg] at h ⊢
  simp only [Option.bind_some] at h ⊢
  have hlt : 0 < w.heap.size := by
    rcases Nat.lt_or_ge 0 w.heap.size with h' | h'
    · exact h'
    · rw [Array.getElem?_eq_none h'] at h; cases h
  rw [hb.block 0 hlt]
  exact h
/-- out of what a row lists -/
theorem Pow.laid {d1 d2 : String × DataW Unit} {w : World} (h : laidMetH Tryd.prog [d1, d2, ("internal/strconv.uint64pow10", Lib.tabData .u64 Lib.pow10Tab)] w)
    (hp : ([d1, d2, ("internal/strconv.uint64pow10", Lib.tabData .u64 Lib.pow10Tab)].all fun x => x.2.handleName?.isNone) = true) : Pow w := by
  rw [Go.MakeChecks.laidMetH_plain _ _ _ hp] at h
  exact Lib.tabIs_of_head (g := 0) (t := 84) (e := 74) (n := 20) (by kernel_rfl) (by kernel_rfl) (by kernel_rfl) (by kernel_rfl) (by kernel_rfl) (by kernel_rfl) h.tail.tail

theorem Text_is (xs : List Int) (t : ByteArray) (ht : joinB xs = t) (n : Nat) (hn : xs.length = n) (p : Option Addr) (c : Nat) (hl : n ≤ 300) (w : World) (h : Ints w p xs) (hP : Pow w) :
    Calls Tryd.prog 15 #[.slice p n c] w fun e w' => e = .returned (.string t) ∧ Below w.heap.size w w' := by
  subst ht hn
  have hJ : (Lib.join (xs.map Lib.itoa) [32]).length ≤ 140737488355328 := by
    have := join_short (xs := xs) h.i64
    omega
  refine Text_any Lib.itoa p c xs (by omega) hJ w h fun k hk z hz => ?_
  have hx := h.i64 (nth xs k) (nth_mem hk)
  refine (Tryd.strconv_Itoa (nth xs k) hx.1 hx.2 z (hP.keep hz)).mono ?_
  rintro e w' ⟨rfl, m, os, rfl⟩
  exact ⟨rfl, below_grow0 z m os⟩
theorem RefText_is (xs : List Int) (t : ByteArray) (ht : joinB xs = t) (n : Nat) (hn : xs.length = n) (p : Option Addr) (c : Nat) (hl : n ≤ 300) (w : World) (h : Ints w p xs) :
    Calls Tryd.prog 18 #[.slice p n c] w fun e w' => e = .returned (.string t) ∧ Below w.heap.size w w' := by
  subst ht hn
  exact RefText_any p c xs (by omega) w h
theorem RefStrides_at (a : Option Addr) (c : Nat) (s l : List Int) (n m : Nat) (hm : s.length = m) (hl : strideS s = l) (hn : l.length = n) (w : World) (h : Ints w a s) :
    Calls Tryd.prog 17 #[.slice a m c] w fun e w' => (∃ q cap, e = .returned (.slice q n cap) ∧ Ints w' q l) ∧ Below w.heap.size w w' := by
  subst hl hn hm
  refine (RefStrides_any a c s w h).mono fun e w' ⟨⟨q, cap, he, hq⟩, hb⟩ => ⟨⟨q, cap, he, hq.ints (strideS_i64 s) ?_⟩, hb⟩
  have := strideS_len s
  have := h.small
  omega
theorem ShapeCheck_b (s : List Int) (n : Int) (hn : shapeS s = n) (a : Option Addr) (c : Nat) (w : World) (h : Ints w a s) :
    Calls Tryd.prog 16 #[.slice a s.length c] w fun e w' => e = .returned (.int .i64 n) ∧ Below w.heap.size w w' := by
  subst hn
  exact (ShapeCheck_any a c s w h).mono fun e w' ⟨he, hw⟩ => ⟨he, hw ▸ Below.refl _ _⟩

set_option maxRecDepth 100000 in
set_option maxHeartbeats 4000000 in
theorem ShapeRight_law (p : Option Addr) (c : Nat) (s : List Int) (w : World) (h : Ints w p s) (hbd : Bds p s.length c) (hP : Pow w) :
    Calls Tryd.prog 5 #[.slice p s.length c] w fun e w' => e = .returned (.bool true) ∧ Below w.heap.size w w' := by
  have hsm := h.small
  obtain ⟨z, hz⟩ : ∃ z, shapeS s = z := ⟨_, rfl⟩
  obtain ⟨m, hm⟩ : ∃ z, cellsS s = z := ⟨_, rfl⟩
  obtain ⟨l, hl⟩ : ∃ z, strideS s = z := ⟨_, rfl⟩
  obtain ⟨t, ht⟩ : ∃ z, joinB s = z := ⟨_, rfl⟩
  obtain ⟨ln, hln⟩ : ∃ z, l.length = z := ⟨_, rfl⟩
  have HZ := Lib.hid hz
  have HM := Lib.hid hm
  have HL := Lib.hid hl
  have HT := Lib.hid ht
  have HN := Lib.hid hln
  clear hz hm hl ht hln
  go_enter Tryd.func5, Tryd.ntmps5
  go_wp2_with fail
  refine (awake02 w).mono ?_
  rintro e1 w1 ⟨rfl, hb⟩
  have h1 := h.keep hb
  have hP := hP.keep hb
  by_cases k1 : (300 : Int) < (s.length : Int)
  · have d1 : decide ((300 : Int) < (s.length : Int)) = true := decide_eq_true k1
    clear hP
    go_wp2_with fail
    refine (awake02 w1).mono ?_
    rintro e2 w2 ⟨rfl, hb2⟩
    go_wp2_with fail
    go_ret
    exact ⟨rfl, below_t hb hb2⟩
  have d1 : decide ((300 : Int) < (s.length : Int)) = false := decide_eq_false k1
  have hl3 : Hid (s.length ≤ 300) := by unfold Hid; omega
  have HP := Lib.hid hP
  clear hP
  go_wp2_with fail
  refine (ShapeCheck_b s z HZ.out _ _ _ h1).mono ?_
  rintro e2 w2 ⟨rfl, hb2⟩
  have h2 := h1.keep hb2
  have hP := HP.out.keep hb2
  have hb := below_t hb hb2
  have HP := Lib.hid hP
  clear hP
  go_wp2_with fail
  refine (RefCheck_b s z HZ.out _ _ _ h2).mono ?_
  rintro e3 w3 ⟨rfl, hb3⟩
  have h3 := h2.keep hb3
  have hP := HP.out.keep hb3
  have hb := below_t hb hb3
  have HP := Lib.hid hP
  clear hP
  go_wp2_with fail
  refine (ShapeCells_is s m HM.out s.length rfl _ _ _ h3).mono ?_
  rintro e4 w4 ⟨rfl, hb4⟩
  have h4 := h3.keep hb4
  have hP := HP.out.keep hb4
  have hb := below_t hb hb4
  have HP := Lib.hid hP
  clear hP
  go_wp2_with fail
  refine (RefCells_b s m HM.out _ _ _ h4).mono ?_
  rintro e5 w5 ⟨rfl, hb5⟩
  have h5 := h4.keep hb5
  have hP := HP.out.keep hb5
  have hb := below_t hb hb5
  have HP := Lib.hid hP
  clear hP
  go_wp2_with fail
  refine (Strides_is _ _ s l ln HL.out HN.out _ h5).mono ?_
  rintro e6 w6 ⟨⟨q, cap, rfl, hq⟩, hb6⟩
  have h6 := h5.keep hb6
  have hP := HP.out.keep hb6
  have hb := below_t hb hb6
  have HP := Lib.hid hP
  clear hP
  go_wp2_with fail
  refine (RefStrides_at _ _ s l ln s.length rfl HL.out HN.out _ h6).mono ?_
  rintro e7 w7 ⟨⟨q', cap', rfl, hq'⟩, hb7⟩
  have h7 := h6.keep hb7
  have hq := hq.keep hb7
  have hP := HP.out.keep hb7
  have hb := below_t hb hb7
  have HP := Lib.hid hP
  clear hP
  go_wp2_with fail
  refine (refEq_true l ln ln HN.out HN.out _ _ _ _ _ hq hq').mono ?_
  rintro e8 w8 ⟨rfl, hb8⟩
  have h8 := h7.keep hb8
  have hP := HP.out.keep hb8
  have hb := below_t hb hb8
  have HP := Lib.hid hP
  clear hP
  go_wp2_with fail
  refine (Text_is s t HT.out s.length rfl _ _ hl3.out _ h8 HP.out).mono ?_
  rintro e9 w9 ⟨rfl, hb9⟩
  have h9 := h8.keep hb9
  have hb := below_t hb hb9
  go_wp2_with fail
  refine (RefText_is s t HT.out s.length rfl _ _ hl3.out _ h9).mono ?_
  rintro e10 w10 ⟨rfl, hb10⟩
  have hb := below_t hb hb10
  go_wp2_with fail
  go_ret
  exact ⟨rfl, hb⟩
end Go.Proofs.YtfifjokmhhakkaaDoor
