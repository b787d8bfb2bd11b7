/- The laws GammaReshapes and GammaOrders of layer 3, walked. -/
import Derived.Test.YthkfjdhakbjllaaLaw03
namespace Go.Proofs.Ythkfjdhakbjllaa
open Go.RowKit Go.Shelf
set_option linter.unusedVariables false

theorem off_of_un {s : List Int} {n : Int} (h : inS s n = true) : offS s (unoff s n) = n ∧ decide (Valid s (unoff s n)) = true ∧ ixS s n = unoff s n := by
  obtain ⟨hs, hp, -, hb, h1, h2, -⟩ := inS_shape h
  obtain ⟨v, o⟩ := unoff_off s hp n h1 h2
  refine ⟨?_, decide_eq_true v, ?_⟩
  · unfold offS
    rw [if_pos v, o]
  · unfold ixS
    rw [if_pos h]

theorem RefCells_is (s : List Int) (n : Int) (hn : cellsS s = n) (a : Option Addr) (c : Nat) (w : World) (h : Ints w a s) :
    Calls Try.prog 32 #[.slice a s.length c] w fun e w' => e = .returned (.int .i64 n) ∧ w = w' := by
  have := RefCells_any a c s w h
  rw [hn] at this
  exact this

theorem Index_un (s : List Int) (n : Int) (hI : inS s n = true) (a : Option Addr) (c : Nat) (w : World) (h : Ints w a s) :
    Calls Try.prog 21 #[.slice a s.length c, .int .i64 n] w fun e w' => (∃ q c', e = .returned (.tuple #[.slice q (unoff s n).length c', .bool true]) ∧ Ints w' q (unoff s n)) ∧ Below w.heap.size w w' := by
  have := Index_ints s n a c w h
  rw [(off_of_un hI).2.2, hI] at this
  exact this

theorem inS_same {s t : List Int} {n : Int} (h : cellsS s = cellsS t) (hI : inS s n = true) : inS t n = true := by
  unfold inS at hI ⊢
  rw [← h]
  exact hI

set_option maxRecDepth 100000 in
set_option maxHeartbeats 4000000 in
theorem GammaReshapes_law (a : Option Addr) (c : Nat) (s : List Int) (b : Option Addr) (d : Nat) (t : List Int) (n : Int) (w : World) (h : Ints w a s) (h' : Ints w b t) (hn : 0 ≤ n ∧ n ≤ 65535) :
    Calls Try.prog 5 #[.slice a s.length c, .slice b t.length d, .int .u16 n] w fun e w' => e = .returned (.bool true) ∧ Below w.heap.size w w' := by
  obtain ⟨hn1, hn2⟩ := hn
  by_cases hz : shapeS s = 0
  · by_cases hz' : shapeS t = 0
    · by_cases hc : cellsS s = cellsS t
      · have Hc := Lib.hid hc
        have Hc' := Lib.hid (show cellsS t = cellsS s from hc.symm)
        clear hc
        cases hI : inS s n with
        | true =>
          have HI := Lib.hid hI
          have HI' := Lib.hid (inS_same Hc.out hI)
          clear hI
          go_enter Try.func5, Try.ntmps5
          go_wp2_with fail
          refine (awake03 _).mono ?_
          rintro e w' ⟨rfl, hb1⟩
          go_wp2_with fail
          refine (RefCheck_is _ _ hz _ _ _ (h.keep hb1)).mono ?_
          rintro e w' ⟨rfl, rfl⟩
          go_wp2_with fail
          refine (RefCheck_is _ _ hz' _ _ _ (h'.keep hb1)).mono ?_
          rintro e w' ⟨rfl, rfl⟩
          go_wp2_with fail
          refine (RefCells_any _ _ _ _ (h.keep hb1)).mono ?_
          rintro e w' ⟨rfl, rfl⟩
          go_wp2_with fail
          refine (RefCells_is t (cellsS s) Hc'.out _ _ _ (h'.keep hb1)).mono ?_
          rintro e w' ⟨rfl, rfl⟩
          go_wp2_with fail
          refine (Index_un s n HI.out _ _ _ (h.keep hb1)).mono ?_
          rintro e w2 ⟨⟨q, c', rfl, hi⟩, hb2⟩
          have hb2 := below_t hb1 hb2
          clear hb1
          go_wp2_with fail
          refine (Offset_is s (unoff s n) n true (off_of_un HI.out).1 (off_of_un HI.out).2.1 hz _ _ _ _ _ (h.keep hb2) hi).mono ?_
          rintro e w' ⟨rfl, hb3⟩
          have hi := hi.keep hb3
          have hb3 := below_t hb2 hb3
          clear hb2
          go_wp2_with fail
          refine (Index_un t n HI'.out _ _ _ (h'.keep hb3)).mono ?_
          rintro e w4 ⟨⟨q2, c2, rfl, hk⟩, hb4⟩
          have hi := hi.keep hb4
          have hb4 := below_t hb3 hb4
          clear hb3
          go_wp2_with fail
          refine (Offset_is t (unoff t n) n true (off_of_un HI'.out).1 (off_of_un HI'.out).2.1 hz' _ _ _ _ _ (h'.keep hb4) hk).mono ?_
          rintro e w' ⟨rfl, hb5⟩
          have hi := hi.keep hb5
          have hb5 := below_t hb4 hb5
          clear hb4 hk
          go_wp2_with fail
          refine (Index_un s n HI.out _ _ _ (h.keep hb5)).mono ?_
          rintro e w6 ⟨⟨q3, c3, rfl, hj⟩, hb6⟩
          have hi := hi.keep hb6
          have hb6 := below_t hb5 hb6
          clear hb5
          go_wp2_with fail
          refine (RefEqual_is _ _ true (by simp [eqS]) _ _ _ _ _ hi hj).mono ?_
          rintro e w' ⟨rfl, hb7⟩
          go_wp2_with fail
          go_ret
          exact ⟨rfl, below_t hb6 hb7⟩
        | false =>
          have HI := Lib.hid hI
          have He : Hid (ixS s n = []) := by unfold ixS; exact if_neg (by simp [hI])
          clear hI
          go_enter Try.func5, Try.ntmps5
          go_wp2_with fail
          refine (awake03 _).mono ?_
          rintro e w' ⟨rfl, hb1⟩
          go_wp2_with fail
          refine (RefCheck_is _ _ hz _ _ _ (h.keep hb1)).mono ?_
          rintro e w' ⟨rfl, rfl⟩
          go_wp2_with fail
          refine (RefCheck_is _ _ hz' _ _ _ (h'.keep hb1)).mono ?_
          rintro e w' ⟨rfl, rfl⟩
          go_wp2_with fail
          refine (RefCells_any _ _ _ _ (h.keep hb1)).mono ?_
          rintro e w' ⟨rfl, rfl⟩
          go_wp2_with fail
          refine (RefCells_is t (cellsS s) Hc'.out _ _ _ (h'.keep hb1)).mono ?_
          rintro e w' ⟨rfl, rfl⟩
          go_wp2_with fail
          refine (Index_ints s n _ _ _ (h.keep hb1)).mono ?_
          rw [He.out, HI.out]
          rintro e w2 ⟨⟨q, c', rfl, hi⟩, hb2⟩
          have hb2 := below_t hb1 hb2
          clear hb1
          go_wp2_with fail
          refine (RefIn_is s n false HI.out _ _ _ (h.keep hb2)).mono ?_
          rintro e w' ⟨rfl, rfl⟩
          go_wp2_with fail
          go_ret
          exact ⟨rfl, hb2⟩
      · have hcb : (cellsS s != cellsS t) = true := by simp [hc]
        go_enter Try.func5, Try.ntmps5
        go_wp2_with fail
        refine (awake03 _).mono ?_
        rintro e w' ⟨rfl, hb1⟩
        go_wp2_with fail
        refine (RefCheck_is _ _ hz _ _ _ (h.keep hb1)).mono ?_
        rintro e w' ⟨rfl, rfl⟩
        go_wp2_with fail
        refine (RefCheck_is _ _ hz' _ _ _ (h'.keep hb1)).mono ?_
        rintro e w' ⟨rfl, rfl⟩
        go_wp2_with fail
        refine (RefCells_any _ _ _ _ (h.keep hb1)).mono ?_
        rintro e w' ⟨rfl, rfl⟩
        go_wp2_with fail
        refine (RefCells_any _ _ _ _ (h'.keep hb1)).mono ?_
        rintro e w' ⟨rfl, rfl⟩
        go_wp2_with fail
        refine (awake03 _).mono ?_
        rintro e w' ⟨rfl, hb2⟩
        go_wp2_with fail
        go_ret
        exact ⟨rfl, below_t hb1 hb2⟩
    · have hzb : (shapeS t != 0) = true := by simp [hz']
      go_enter Try.func5, Try.ntmps5
      go_wp2_with fail
      refine (awake03 _).mono ?_
      rintro e w' ⟨rfl, hb1⟩
      go_wp2_with fail
      refine (RefCheck_is _ _ hz _ _ _ (h.keep hb1)).mono ?_
      rintro e w' ⟨rfl, rfl⟩
      go_wp2_with fail
      refine (RefCheck_any _ _ _ _ (h'.keep hb1)).mono ?_
      rintro e w' ⟨rfl, rfl⟩
      go_wp2_with fail
      refine (awake03 _).mono ?_
      rintro e w' ⟨rfl, hb2⟩
      go_wp2_with fail
      go_ret
      exact ⟨rfl, below_t hb1 hb2⟩
  · have hzb : (shapeS s != 0) = true := by simp [hz]
    go_enter Try.func5, Try.ntmps5
    go_wp2_with fail
    refine (awake03 _).mono ?_
    rintro e w' ⟨rfl, hb1⟩
    go_wp2_with fail
    refine (RefCheck_any _ _ _ _ (h.keep hb1)).mono ?_
    rintro e w' ⟨rfl, rfl⟩
    go_wp2_with fail
    refine (awake03 _).mono ?_
    rintro e w' ⟨rfl, hb2⟩
    go_wp2_with fail
    go_ret
    exact ⟨rfl, below_t hb1 hb2⟩

theorem lexS_step {a b : List Int} {k : Nat} (h1 : k < a.length) (h2 : k < b.length) :
    lexS (a.drop k) (b.drop k) = (decide (nth a k < nth b k) || (nth a k == nth b k && lexS (a.drop (k + 1)) (b.drop (k + 1)))) := by
  rw [drop_nth h1, drop_nth h2, lexS]

theorem orders {s a b : List Int} (hz : shapeS s = 0) (ha : Valid s a) (hb : Valid s b) :
    ∃ x y : Int, offS s a = x ∧ offS s b = y ∧ lexS a b = decide (x < y) ∧ eqS a b = decide (x = y) ∧ 0 ≤ x ∧ x < cellsS s := by
  obtain ⟨h1, h2⟩ := off_bd s a ha
  obtain ⟨-, hc⟩ := (shapeS_zero.1 hz).prod_le ha
  refine ⟨dotS (strs s) a, dotS (strs s) b, if_pos ha, if_pos hb, lex_off s a b ha hb, ?_, h1, by omega⟩
  unfold eqS
  by_cases h : a = b
  · subst h
    simp
  · rw [decide_eq_false h, decide_eq_false fun h' => h (off_inj ha hb h')]

set_option maxRecDepth 100000 in
set_option maxHeartbeats 8000000 in
theorem GammaOrders_law (p : Option Addr) (c : Nat) (s : List Int) (q : Option Addr) (d : Nat) (a : List Int) (r : Option Addr) (f : Nat) (b : List Int) (w : World) (h : Ints w p s) (h' : Ints w q a) (h'' : Ints w r b) :
    Calls Try.prog 6 #[.slice p s.length c, .slice q a.length d, .slice r b.length f] w fun e w' => e = .returned (.bool true) ∧ Below w.heap.size w w' := by
  by_cases hz : shapeS s = 0
  · have hl := (shapeS_zero.1 hz).len
    by_cases ha : Valid s a
    · have had := Lib.hid (decide_eq_true ha)
      by_cases hb : Valid s b
      · have hbd := Lib.hid (decide_eq_true hb)
        obtain ⟨x, y, hx, hy, hlex, heq, hx1, hx2⟩ := orders hz ha hb
        have Hx := Lib.hid hx
        have Hy := Lib.hid hy
        have Hlex := Lib.hid hlex
        have Heq := Lib.hid heq
        have Hla := Lib.hid ha.1
        have Hlb := Lib.hid hb.1
        have hla : s.length ≤ a.length := by have := ha.1; omega
        have hlb : s.length ≤ b.length := by have := hb.1; omega
        clear hx hy hlex heq ha hb
        rcases (show (x < y ∧ ¬ x = y) ∨ (¬ x < y ∧ x = y) ∨ (¬ x < y ∧ ¬ x = y) by omega) with ⟨hA, hB⟩ | ⟨hA, hB⟩ | ⟨hA, hB⟩
        · have H0 := trivial
          have hLe : Hid (lexS a b = true) := by unfold Hid; rw [Hlex.out]; simp [hA]
          have hEq : Hid (eqS a b = false) := by unfold Hid; rw [Heq.out]; simp [hB]
          have hA' : decide (x < y) = true := by simp [hA]
          have hB' : (x == y) = false := by simp [hB]
          clear hA hB
          go_enter Try.func6, Try.ntmps6
          go_wp2_with fail
          refine (awake03 _).mono ?_
          rintro e w' ⟨rfl, hb1⟩
          go_wp2_with fail
          refine (RefCheck_is _ _ hz _ _ _ (h.keep hb1)).mono ?_
          rintro e w' ⟨rfl, rfl⟩
          go_wp2_with fail
          refine (RefValid_is s a true had.out _ _ _ _ _ (h.keep hb1) (h'.keep hb1)).mono ?_
          rintro e w' ⟨rfl, hb2⟩
          have hb2 := below_t hb1 hb2
          clear hb1
          go_wp2_with fail
          refine (RefValid_is s b true hbd.out _ _ _ _ _ (h.keep hb2) (h''.keep hb2)).mono ?_
          rintro e w' ⟨rfl, hb3⟩
          have hb3 := below_t hb2 hb3
          clear hb2
          go_wp2_with fail
          go_loopw [7, 8] (fun l i wr => ∃ (k : Nat) (z : Bool), k ≤ s.length ∧ i = .int .i64 ((k : Int) - 1) ∧ l = .bool z ∧ Below w.heap.size w wr ∧ Hid (lexS (a.drop k) (b.drop k) = z)) (fun _ i _ => (intOf i + 1).toNat)
          case atStart => exact ⟨s.length, false, Nat.le_refl _, rfl, rfl, hb3, by unfold Hid; rw [List.drop_eq_nil_of_le (by have := Hla.out; omega)]; rfl⟩
          case round =>
            obtain ⟨k, z, hk, rfl, rfl, hbr, hI⟩ := hrel
            cases k with
            | zero =>
              obtain rfl : z = true := by
                have := hI.out
                rw [List.drop_zero, List.drop_zero, hLe.out] at this
                exact this.symm
              clear hI
              go_wp2_with fail
              refine (Offset_is s a x true Hx.out had.out hz _ _ _ _ _ (h.keep hbr) (h'.keep hbr)).mono ?_
              rintro e w' ⟨rfl, hb4⟩
              have hb4 := below_t hbr hb4
              go_wp2_with fail
              refine (Offset_is s b y true Hy.out hbd.out hz _ _ _ _ _ (h.keep hb4) (h''.keep hb4)).mono ?_
              rintro e w' ⟨rfl, hb5⟩
              have hb5 := below_t hb4 hb5
              go_wp2_with fail
              refine (RefEqual_is a b false hEq.out _ _ _ _ _ (h'.keep hb5) (h''.keep hb5)).mono ?_
              rintro e w' ⟨rfl, hb6⟩
              have hb6 := below_t hb5 hb6
              go_wp2_with fail
              refine (RefCells_any _ _ _ _ (h.keep hb6)).mono ?_
              rintro e w' ⟨rfl, rfl⟩
              go_wp2_with fail
              go_ret
              exact ⟨rfl, hb6⟩
            | succ k =>
              have ek : ((k + 1 : Nat) : Int) - 1 = (k : Int) := by omega
              rw [ek]
              clear ek
              have hk1 : k < a.length := by omega
              have hk2 : k < b.length := by omega
              obtain ⟨b1, o1, rfl, -, hc1⟩ := (h'.keep hbr).at hk1
              obtain ⟨b2, o2, rfl, -, hc2⟩ := (h''.keep hbr).at hk2
              have hi1 : (k : Int) < (a.length : Int) := by omega
              have hi2 : (k : Int) < (b.length : Int) := by omega
              have hst := lexS_step hk1 hk2
              rw [hI.out] at hst
              by_cases hc3 : nth a k < nth b k
              · have H : Hid (lexS (a.drop k) (b.drop k) = true) := by unfold Hid; rw [hst]; simp [hc3]
                clear hst
                go_wp2
                go_quiet (fail)
                go_wp2
                go_roundw
                case rel => exact ⟨k, true, by omega, rfl, rfl, hbr.trans ((below_drewN _ _ _).mono hbr.size), H⟩
                case measure => simp [intOf]
              · have hc3' : decide (nth a k < nth b k) = false := decide_eq_false hc3
                by_cases hc4 : nth a k = nth b k
                · have hc4' : (nth a k == nth b k) = true := by simp [hc4]
                  have H : Hid (lexS (a.drop k) (b.drop k) = z) := by unfold Hid; rw [hst]; simp [hc4]
                  clear hst hc4
                  go_wp2
                  go_quiet (fail)
                  go_wp2
                  go_roundw
                  case rel => exact ⟨k, z, by omega, rfl, rfl, hbr.trans ((below_drewN _ _ _).mono hbr.size), H⟩
                  case measure => simp [intOf]
                · have hc4' : (nth a k == nth b k) = false := by simp [hc4]
                  have H : Hid (lexS (a.drop k) (b.drop k) = false) := by unfold Hid; rw [hst]; simp [hc3, hc4]
                  clear hst
                  go_wp2
                  go_quiet (fail)
                  go_wp2
                  go_roundw
                  case rel => exact ⟨k, false, by omega, rfl, rfl, hbr.trans ((below_drewN _ _ _).mono hbr.size), H⟩
                  case measure => simp [intOf]
        · have H0 := trivial
          have hLe : Hid (lexS a b = false) := by unfold Hid; rw [Hlex.out]; simp [hA]
          have hEq : Hid (eqS a b = true) := by unfold Hid; rw [Heq.out]; simp [hB]
          have hA' : decide (x < y) = false := by simp [hA]
          have hB' : (x == y) = true := by simp [hB]
          clear hA hB
          go_enter Try.func6, Try.ntmps6
          go_wp2_with fail
          refine (awake03 _).mono ?_
          rintro e w' ⟨rfl, hb1⟩
          go_wp2_with fail
          refine (RefCheck_is _ _ hz _ _ _ (h.keep hb1)).mono ?_
          rintro e w' ⟨rfl, rfl⟩
          go_wp2_with fail
          refine (RefValid_is s a true had.out _ _ _ _ _ (h.keep hb1) (h'.keep hb1)).mono ?_
          rintro e w' ⟨rfl, hb2⟩
          have hb2 := below_t hb1 hb2
          clear hb1
          go_wp2_with fail
          refine (RefValid_is s b true hbd.out _ _ _ _ _ (h.keep hb2) (h''.keep hb2)).mono ?_
          rintro e w' ⟨rfl, hb3⟩
          have hb3 := below_t hb2 hb3
          clear hb2
          go_wp2_with fail
          go_loopw [7, 8] (fun l i wr => ∃ (k : Nat) (z : Bool), k ≤ s.length ∧ i = .int .i64 ((k : Int) - 1) ∧ l = .bool z ∧ Below w.heap.size w wr ∧ Hid (lexS (a.drop k) (b.drop k) = z)) (fun _ i _ => (intOf i + 1).toNat)
          case atStart => exact ⟨s.length, false, Nat.le_refl _, rfl, rfl, hb3, by unfold Hid; rw [List.drop_eq_nil_of_le (by have := Hla.out; omega)]; rfl⟩
          case round =>
            obtain ⟨k, z, hk, rfl, rfl, hbr, hI⟩ := hrel
            cases k with
            | zero =>
              obtain rfl : z = false := by
                have := hI.out
                rw [List.drop_zero, List.drop_zero, hLe.out] at this
                exact this.symm
              clear hI
              go_wp2_with fail
              refine (Offset_is s a x true Hx.out had.out hz _ _ _ _ _ (h.keep hbr) (h'.keep hbr)).mono ?_
              rintro e w' ⟨rfl, hb4⟩
              have hb4 := below_t hbr hb4
              go_wp2_with fail
              refine (Offset_is s b y true Hy.out hbd.out hz _ _ _ _ _ (h.keep hb4) (h''.keep hb4)).mono ?_
              rintro e w' ⟨rfl, hb5⟩
              have hb5 := below_t hb4 hb5
              go_wp2_with fail
              refine (RefEqual_is a b true hEq.out _ _ _ _ _ (h'.keep hb5) (h''.keep hb5)).mono ?_
              rintro e w' ⟨rfl, hb6⟩
              have hb6 := below_t hb5 hb6
              go_wp2_with fail
              refine (RefCells_any _ _ _ _ (h.keep hb6)).mono ?_
              rintro e w' ⟨rfl, rfl⟩
              go_wp2_with fail
              go_ret
              exact ⟨rfl, hb6⟩
            | succ k =>
              have ek : ((k + 1 : Nat) : Int) - 1 = (k : Int) := by omega
              rw [ek]
              clear ek
              have hk1 : k < a.length := by omega
              have hk2 : k < b.length := by omega
              obtain ⟨b1, o1, rfl, -, hc1⟩ := (h'.keep hbr).at hk1
              obtain ⟨b2, o2, rfl, -, hc2⟩ := (h''.keep hbr).at hk2
              have hi1 : (k : Int) < (a.length : Int) := by omega
              have hi2 : (k : Int) < (b.length : Int) := by omega
              have hst := lexS_step hk1 hk2
              rw [hI.out] at hst
              by_cases hc3 : nth a k < nth b k
              · have H : Hid (lexS (a.drop k) (b.drop k) = true) := by unfold Hid; rw [hst]; simp [hc3]
                clear hst
                go_wp2
                go_quiet (fail)
                go_wp2
                go_roundw
                case rel => exact ⟨k, true, by omega, rfl, rfl, hbr.trans ((below_drewN _ _ _).mono hbr.size), H⟩
                case measure => simp [intOf]
              · have hc3' : decide (nth a k < nth b k) = false := decide_eq_false hc3
                by_cases hc4 : nth a k = nth b k
                · have hc4' : (nth a k == nth b k) = true := by simp [hc4]
                  have H : Hid (lexS (a.drop k) (b.drop k) = z) := by unfold Hid; rw [hst]; simp [hc4]
                  clear hst hc4
                  go_wp2
                  go_quiet (fail)
                  go_wp2
                  go_roundw
                  case rel => exact ⟨k, z, by omega, rfl, rfl, hbr.trans ((below_drewN _ _ _).mono hbr.size), H⟩
                  case measure => simp [intOf]
                · have hc4' : (nth a k == nth b k) = false := by simp [hc4]
                  have H : Hid (lexS (a.drop k) (b.drop k) = false) := by unfold Hid; rw [hst]; simp [hc3, hc4]
                  clear hst
                  go_wp2
                  go_quiet (fail)
                  go_wp2
                  go_roundw
                  case rel => exact ⟨k, false, by omega, rfl, rfl, hbr.trans ((below_drewN _ _ _).mono hbr.size), H⟩
                  case measure => simp [intOf]
        · have H0 := trivial
          have hLe : Hid (lexS a b = false) := by unfold Hid; rw [Hlex.out]; simp [hA]
          have hEq : Hid (eqS a b = false) := by unfold Hid; rw [Heq.out]; simp [hB]
          have hA' : decide (x < y) = false := by simp [hA]
          have hB' : (x == y) = false := by simp [hB]
          clear hA hB
          go_enter Try.func6, Try.ntmps6
          go_wp2_with fail
          refine (awake03 _).mono ?_
          rintro e w' ⟨rfl, hb1⟩
          go_wp2_with fail
          refine (RefCheck_is _ _ hz _ _ _ (h.keep hb1)).mono ?_
          rintro e w' ⟨rfl, rfl⟩
          go_wp2_with fail
          refine (RefValid_is s a true had.out _ _ _ _ _ (h.keep hb1) (h'.keep hb1)).mono ?_
          rintro e w' ⟨rfl, hb2⟩
          have hb2 := below_t hb1 hb2
          clear hb1
          go_wp2_with fail
          refine (RefValid_is s b true hbd.out _ _ _ _ _ (h.keep hb2) (h''.keep hb2)).mono ?_
          rintro e w' ⟨rfl, hb3⟩
          have hb3 := below_t hb2 hb3
          clear hb2
          go_wp2_with fail
          go_loopw [7, 8] (fun l i wr => ∃ (k : Nat) (z : Bool), k ≤ s.length ∧ i = .int .i64 ((k : Int) - 1) ∧ l = .bool z ∧ Below w.heap.size w wr ∧ Hid (lexS (a.drop k) (b.drop k) = z)) (fun _ i _ => (intOf i + 1).toNat)
          case atStart => exact ⟨s.length, false, Nat.le_refl _, rfl, rfl, hb3, by unfold Hid; rw [List.drop_eq_nil_of_le (by have := Hla.out; omega)]; rfl⟩
          case round =>
            obtain ⟨k, z, hk, rfl, rfl, hbr, hI⟩ := hrel
            cases k with
            | zero =>
              obtain rfl : z = false := by
                have := hI.out
                rw [List.drop_zero, List.drop_zero, hLe.out] at this
                exact this.symm
              clear hI
              go_wp2_with fail
              refine (Offset_is s a x true Hx.out had.out hz _ _ _ _ _ (h.keep hbr) (h'.keep hbr)).mono ?_
              rintro e w' ⟨rfl, hb4⟩
              have hb4 := below_t hbr hb4
              go_wp2_with fail
              refine (Offset_is s b y true Hy.out hbd.out hz _ _ _ _ _ (h.keep hb4) (h''.keep hb4)).mono ?_
              rintro e w' ⟨rfl, hb5⟩
              have hb5 := below_t hb4 hb5
              go_wp2_with fail
              refine (RefEqual_is a b false hEq.out _ _ _ _ _ (h'.keep hb5) (h''.keep hb5)).mono ?_
              rintro e w' ⟨rfl, hb6⟩
              have hb6 := below_t hb5 hb6
              go_wp2_with fail
              refine (RefCells_any _ _ _ _ (h.keep hb6)).mono ?_
              rintro e w' ⟨rfl, rfl⟩
              go_wp2_with fail
              go_ret
              exact ⟨rfl, hb6⟩
            | succ k =>
              have ek : ((k + 1 : Nat) : Int) - 1 = (k : Int) := by omega
              rw [ek]
              clear ek
              have hk1 : k < a.length := by omega
              have hk2 : k < b.length := by omega
              obtain ⟨b1, o1, rfl, -, hc1⟩ := (h'.keep hbr).at hk1
              obtain ⟨b2, o2, rfl, -, hc2⟩ := (h''.keep hbr).at hk2
              have hi1 : (k : Int) < (a.length : Int) := by omega
              have hi2 : (k : Int) < (b.length : Int) := by omega
              have hst := lexS_step hk1 hk2
              rw [hI.out] at hst
              by_cases hc3 : nth a k < nth b k
              · have H : Hid (lexS (a.drop k) (b.drop k) = true) := by unfold Hid; rw [hst]; simp [hc3]
                clear hst
                go_wp2
                go_quiet (fail)
                go_wp2
                go_roundw
                case rel => exact ⟨k, true, by omega, rfl, rfl, hbr.trans ((below_drewN _ _ _).mono hbr.size), H⟩
                case measure => simp [intOf]
              · have hc3' : decide (nth a k < nth b k) = false := decide_eq_false hc3
                by_cases hc4 : nth a k = nth b k
                · have hc4' : (nth a k == nth b k) = true := by simp [hc4]
                  have H : Hid (lexS (a.drop k) (b.drop k) = z) := by unfold Hid; rw [hst]; simp [hc4]
                  clear hst hc4
                  go_wp2
                  go_quiet (fail)
                  go_wp2
                  go_roundw
                  case rel => exact ⟨k, z, by omega, rfl, rfl, hbr.trans ((below_drewN _ _ _).mono hbr.size), H⟩
                  case measure => simp [intOf]
                · have hc4' : (nth a k == nth b k) = false := by simp [hc4]
                  have H : Hid (lexS (a.drop k) (b.drop k) = false) := by unfold Hid; rw [hst]; simp [hc3, hc4]
                  clear hst
                  go_wp2
                  go_quiet (fail)
                  go_wp2
                  go_roundw
                  case rel => exact ⟨k, false, by omega, rfl, rfl, hbr.trans ((below_drewN _ _ _).mono hbr.size), H⟩
                  case measure => simp [intOf]
      · have hbd := Lib.hid (decide_eq_false hb)
        clear ha hb
        go_enter Try.func6, Try.ntmps6
        go_wp2_with fail
        refine (awake03 _).mono ?_
        rintro e w' ⟨rfl, hb1⟩
        go_wp2_with fail
        refine (RefCheck_is _ _ hz _ _ _ (h.keep hb1)).mono ?_
        rintro e w' ⟨rfl, rfl⟩
        go_wp2_with fail
        refine (RefValid_is s a true had.out _ _ _ _ _ (h.keep hb1) (h'.keep hb1)).mono ?_
        rintro e w' ⟨rfl, hb2⟩
        have hb2 := below_t hb1 hb2
        clear hb1
        go_wp2_with fail
        refine (RefValid_is s b false hbd.out _ _ _ _ _ (h.keep hb2) (h''.keep hb2)).mono ?_
        rintro e w' ⟨rfl, hb3⟩
        have hb3 := below_t hb2 hb3
        go_wp2_with fail
        refine (awake03 _).mono ?_
        rintro e w' ⟨rfl, hb4⟩
        go_wp2_with fail
        go_ret
        exact ⟨rfl, below_t hb3 hb4⟩
    · have had := Lib.hid (decide_eq_false ha)
      clear ha
      go_enter Try.func6, Try.ntmps6
      go_wp2_with fail
      refine (awake03 _).mono ?_
      rintro e w' ⟨rfl, hb1⟩
      go_wp2_with fail
      refine (RefCheck_is _ _ hz _ _ _ (h.keep hb1)).mono ?_
      rintro e w' ⟨rfl, rfl⟩
      go_wp2_with fail
      refine (RefValid_is s a false had.out _ _ _ _ _ (h.keep hb1) (h'.keep hb1)).mono ?_
      rintro e w' ⟨rfl, hb2⟩
      have hb2 := below_t hb1 hb2
      go_wp2_with fail
      refine (awake03 _).mono ?_
      rintro e w' ⟨rfl, hb3⟩
      go_wp2_with fail
      go_ret
      exact ⟨rfl, below_t hb2 hb3⟩
  · have hzb : (shapeS s != 0) = true := by simp [hz]
    go_enter Try.func6, Try.ntmps6
    go_wp2_with fail
    refine (awake03 _).mono ?_
    rintro e w' ⟨rfl, hb1⟩
    go_wp2_with fail
    refine (RefCheck_any _ _ _ _ (h.keep hb1)).mono ?_
    rintro e w' ⟨rfl, rfl⟩
    go_wp2_with fail
    refine (awake03 _).mono ?_
    rintro e w' ⟨rfl, hb2⟩
    go_wp2_with fail
    go_ret
    exact ⟨rfl, below_t hb1 hb2⟩
end Go.Proofs.Ythkfjdhakbjllaa
