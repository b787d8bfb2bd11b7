/- box.Size, box.filled at one or two boxes. No condition beyond what each says. -/
import Derived.Test.YthkfjdhakbjllaaBox20
namespace Go.Proofs.Ythkfjdhakbjllaa
open Go.RowKit Go.Shelf
set_option linter.unusedVariables false
set_option linter.unusedSimpArgs false

theorem BoxSize_is (p q : Option Addr) (c f : Nat) (lo hi : List Int) (n m : Nat) (hn : n = lo.length) (hm : m = hi.length) (v : Int) (hv0 : countX lo hi = v) (hlen : lo.length ≤ hi.length) (hv : FullX lo hi → vol lo hi lo.length ≤ 9000000000000000000) (w : World) (h : Ints w p lo) (h' : Ints w q hi) :
    Calls Try.prog 57 #[.agg #[.slice p n c, .slice q m f]] w fun e w' => e = .returned (.int .i64 v) ∧ Below w.heap.size w w' := by
  have b1 := below_alloc w (.cells #[.slice p n c, .slice q m f] 67)
  have h1 := h.keep b1
  have h2 := h'.keep b1
  have HN := Lib.hid hn
  have HM := Lib.hid hm
  have HV := Lib.hid hv0
  have HL := Lib.hid hlen
  have HB := Lib.hid hv
  clear hn hm hv0 hlen hv
  go_enter Try.func57, Try.ntmps57
  go_wp2_with fail
  refine (Count_is p q c f lo hi v n m HN.out HM.out HV.out HL.out HB.out _ h1 h2).mono ?_
  rintro e1 w1 ⟨rfl, hb1⟩
  have hb := below_t b1 hb1
  go_wp2_with fail
  go_ret
  exact ⟨rfl, hb⟩

theorem asks_box (p q : Option Addr) (c f : Nat) (lo hi : List Int) (n m : Nat) (hn : n = lo.length) (hm : m = hi.length) (d : Bool) (hd : (countX lo hi == 0) = d) (hlen : lo.length ≤ hi.length) (hv : FullX lo hi → vol lo hi lo.length ≤ 9000000000000000000) (w : World) (h : Ints w p lo) (h' : Ints w q hi) :
    Asks w (.slice p n c) (.slice q m f) d := by
  intro w' hb
  have h := h.keep hb
  have h' := h'.keep hb
  have b1 := below_alloc w' (.cells #[.slice p n c, .slice q m f] 67)
  have h1 := Lib.hid (h.keep b1)
  have h2 := Lib.hid (h'.keep b1)
  obtain ⟨v, hv0⟩ : ∃ v, countX lo hi = v := ⟨_, rfl⟩
  have HV := Lib.hid hv0
  have HD : (v == 0) = d := by rw [← hv0]; exact hd
  have HN := Lib.hid hn
  have HM := Lib.hid hm
  have HL := Lib.hid hlen
  have HB := Lib.hid hv
  clear hn hm hv0 hlen hv hd hb h h'
  go_enter Try.func120, Try.ntmps120
  go_wp2_with fail
  refine (BoxSize_is p q c f lo hi n m HN.out HM.out v HV.out HL.out HB.out _ h1.out h2.out).mono ?_
  rintro e1 w1 ⟨rfl, hb1⟩
  have hb := below_t b1 hb1
  cases d with
  | true =>
    go_wp2_with fail
    go_ret
    exact ⟨rfl, hb⟩
  | false =>
    go_wp2_with fail
    go_ret
    exact ⟨rfl, hb⟩

theorem del2_any (g : Nat) (ax bx ay by' : Option Addr) (nx cx mx dx ny cy my dy : Nat) (d0 d1 : Bool) (us : List Value) (hus : ((if d0 then [] else [.slice ax nx cx, .slice bx mx dx]) ++ if d1 then [] else [.slice ay ny cy, .slice by' my dy]) = us) (w : World) (ho : Own w g 67 [.slice ax nx cx, .slice bx mx dx, .slice ay ny cy, .slice by' my dy])
    (h0 : Asks w (.slice ax nx cx) (.slice bx mx dx) d0) (h1 : Asks w (.slice ay ny cy) (.slice by' my dy) d1) :
    Calls Try.prog 119 #[.slice (some ⟨g, 0, none⟩) 2 2, .func (.func 120) #[] #[]] w (Left g us w) := by
  subst hus
  cases d0 <;> cases d1
  · exact Del2_0 g ax bx ay by' nx cx mx dx ny cy my dy w ho h0 h1
  · exact Del2_1 g ax bx ay by' nx cx mx dx ny cy my dy w ho h0 h1
  · exact Del2_2 g ax bx ay by' nx cx mx dx ny cy my dy w ho h0 h1
  · exact Del2_3 g ax bx ay by' nx cx mx dx ny cy my dy w ho h0 h1
theorem Filled2 (g : Nat) (ax bx ay by' : Option Addr) (nx cx mx dx ny cy my dy : Nat) (d0 d1 : Bool) (us : List Value) (hus : ((if d0 then [] else [.slice ax nx cx, .slice bx mx dx]) ++ if d1 then [] else [.slice ay ny cy, .slice by' my dy]) = us) (w : World) (ho : Own w g 67 [.slice ax nx cx, .slice bx mx dx, .slice ay ny cy, .slice by' my dy])
    (h0 : Asks w (.slice ax nx cx) (.slice bx mx dx) d0) (h1 : Asks w (.slice ay ny cy) (.slice by' my dy) d1) :
    Calls Try.prog 96 #[.slice (some ⟨g, 0, none⟩) 2 2] w (Left g us w) := by
  have HU := Lib.hid hus
  clear hus
  go_enter Try.func96, Try.ntmps96
  go_wp2_with fail
  refine (del2_any g ax bx ay by' nx cx mx dx ny cy my dy d0 d1 us HU.out w ho h0 h1).mono ?_
  rintro e1 w1 ⟨⟨n, cap, hl, rfl, ho1⟩, hb1⟩
  have HL := Lib.hid hl
  clear hl
  go_wp2_with fail
  go_ret
  exact ⟨⟨n, cap, HL.out, rfl, ho1⟩, hb1⟩
theorem Filled1 (g : Nat) (ax bx : Option Addr) (nx cx mx dx : Nat) (d : Bool) (us : List Value) (hus : (if d then [] else [.slice ax nx cx, .slice bx mx dx]) = us) (w : World) (ho : Own w g 67 [.slice ax nx cx, .slice bx mx dx]) (h0 : Asks w (.slice ax nx cx) (.slice bx mx dx) d) :
    Calls Try.prog 96 #[.slice (some ⟨g, 0, none⟩) 1 1] w (Left g us w) := by
  have HU := Lib.hid hus
  clear hus
  go_enter Try.func96, Try.ntmps96
  go_wp2_with fail
  refine (Del1 g ax bx nx cx mx dx d us HU.out w ho h0).mono ?_
  rintro e1 w1 ⟨⟨n, cap, hl, rfl, ho1⟩, hb1⟩
  have HL := Lib.hid hl
  clear hl
  go_wp2_with fail
  go_ret
  exact ⟨⟨n, cap, HL.out, rfl, ho1⟩, hb1⟩
end Go.Proofs.Ythkfjdhakbjllaa
