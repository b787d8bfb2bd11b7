/- The reference's Permutation: the failing cases. No condition beyond what each says. -/
import Derived.Test.YtolkgjbljdmadaaSpec8
namespace Go.Proofs.Ytolkgjbljdmadaa
open Go.RowKit Go.Shelf
set_option linter.unusedVariables false
set_option linter.unusedSimpArgs false

theorem nth_take1 {xs : List Int} {j : Nat} (hj : j < xs.length) : nth (xs.take (j + 1)) j = nth xs j := by
  unfold nth
  rw [List.getD_eq_getElem?_getD, List.getD_eq_getElem?_getD, List.getElem?_take, if_pos (by omega)]

theorem RPerm_len (p : Option Addr) (c : Nat) (vs : List Int) (sc : Bool) (r : Int) (w : World) (hr : (vs.length : Int) ≠ r) :
    Calls Try.prog 13 #[.agg #[.slice p vs.length c, .bool sc], .int .i64 r] w fun e w' =>
      e = .returned (.tuple #[.slice none 0 0, .int .i64 5]) ∧ Below w.heap.size w w' := by
  have hnb : ((vs.length : Int) != r) = true := by simp [hr]
  go_enter Try.func13, Try.ntmps13
  go_wp2_with fail
  go_ret2
  exact ⟨rfl, below_alloc _ _⟩

/-- what an append of one number leaves, as a row of numbers -/
theorem row_one {w : World} {B : Nat} {v : Value} {vs : List Int} {j : Nat} {x : Int} (hj : j < vs.length) (hx : nth vs j = x) (hi : ∀ y ∈ vs, I64 y) (hl : vs.length ≤ 1000000)
    (h : w.ownsRow B 3 1 v (j + 1) ((vs.take j).map (.int .i64) ++ [x].map (.int .i64))) :
    ∃ b off cc, v = .slice (some ⟨b, off, none⟩) (j + 1) cc ∧ w.cell? ⟨b, off + j, none⟩ = some (.int .i64 x) ∧ w.ownsRow B 3 1 v (j + 1) ((vs.take (j + 1)).map (.int .i64)) := by
  have h' : w.ownsRow B 3 1 v (j + 1) ((vs.take (j + 1)).map (.int .i64)) := by rw [take_nth hj, List.map_append, hx]; exact h
  obtain ⟨pp, cc, hv, hnew⟩ := row_new h'
  have hlen : ((vs.take (j + 1)).map (Value.int .i64)).length = j + 1 := by simp; omega
  rw [hlen] at hv
  have hin := hnew.ints (fun y hy => hi y (List.mem_of_mem_take hy)) (by simp; omega)
  obtain ⟨b, off, rfl, -, hc⟩ := hin.at (k := j) (by simp; omega)
  rw [nth_take1 hj, hx] at hc
  exact ⟨b, off, cc, hv, hc, h'⟩

set_option maxRecDepth 100000 in
set_option maxHeartbeats 2000000 in
theorem RPerm_out (p : Option Addr) (c : Nat) (vs : List Int) (sc : Bool) (w : World) (h : Ints w p vs) (hl : vs.length ≤ 1000000) (m : Nat) (hm : m < vs.length) (hbad : nth vs m < 0 ∨ (vs.length : Int) ≤ nth vs m) (hbef : ∀ j, j < m → 0 ≤ nth vs j ∧ nth vs j < (vs.length : Int)) :
    Calls Try.prog 13 #[.agg #[.slice p vs.length c, .bool sc], .int .i64 vs.length] w fun e w' =>
      e = .returned (.tuple #[.slice none 0 0, .int .i64 6]) ∧ Below w.heap.size w w' := by
  have hnb : ((vs.length : Int) != (vs.length : Int)) = false := by simp
  have H7 := Lib.hid hbad
  have Hb := Lib.hid hbef
  have Hi := Lib.hid h.i64
  clear hbad hbef
  obtain ⟨W, hW⟩ : ∃ W, w.alloc (.cells #[.slice p vs.length c, .bool sc] 24) = W := ⟨_, rfl⟩
  have hS := Sp2.new w _ (.slice p vs.length c) sc 24 rfl
  have hk := h.keep (below_alloc w (.cells #[.slice p vs.length c, .bool sc] 24))
  have hbW : Below w.heap.size w W := hW ▸ below_alloc _ _
  rw [hW] at hS hk
  have HW := Lib.hid hW
  clear hW
  go_enter Try.func13, Try.ntmps13
  go_wp2_with fail
  rw [HW.out]
  go_loopw [6, 7, 8] (fun o t i wr => ∃ (k : Nat), k ≤ m ∧ i = .int .i64 k ∧ t = .int .i64 (most (vs.take k)) ∧ wr.ownsRow W.heap.size 3 1 o k ((vs.take k).map (.int .i64)) ∧ Below W.heap.size W wr) (fun _ _ i _ => m - (intOf i).toNat)
  case atStart => exact ⟨0, Nat.zero_le _, rfl, rfl, by simpa using World.ownsRow_nil _ _ _ _, Below.refl _ _⟩
  case round =>
    obtain ⟨j, hj, rfl, rfl, hown, hbr⟩ := hrel
    have hbs := hbr.size
    have hjl : j < vs.length := by omega
    have q1 := (hS.keep hbr).c0
    obtain ⟨b1, o1, rfl, -, hc1⟩ := (hk.keep hbr).at hjl
    have hji : (j : Int) < (vs.length : Int) := by omega
    obtain ⟨x, hxe⟩ : ∃ x, nth vs j = x := ⟨_, rfl⟩
    have HX := Lib.hid hxe
    obtain ⟨t, ht⟩ : ∃ t, most (vs.take j) = t := ⟨_, rfl⟩
    rw [hxe] at hc1
    have Hs : Hid (most (vs.take (j + 1)) = if t < x then x else t) := by
      show most (vs.take (j + 1)) = _
      rw [take_nth hjl, most_snoc, ht, hxe]
    rw [ht]
    by_cases hjm : j < m
    · obtain ⟨hx0, hx1⟩ := Hb.out j hjm
      rw [hxe] at hx0 hx1
      have hd0 : decide (x < 0) = false := decide_eq_false (by omega)
      have hd1 : decide ((vs.length : Int) ≤ x) = false := decide_eq_false (by omega)
      clear hxe ht
      go_wp2_with (at_builtin; refine append_ints rfl _ _ rfl W.heap.size _ j _ rfl (hown.alloc _) (some ⟨wr.heap.size, 0, none⟩) 1 [x] rfl (cells_one _ _ _ _ rfl) (by simp; omega) (by simp; omega) ?_; intro v' w3 hown1 hg1; obtain ⟨b3, o3, c3, rfl, hc3, hown3⟩ := row_one hjl HX.out Hi.out hl hown1; have q3 := (hS.keep (below_append hbr hown hg1)).c0)
      have hb1 := below_append hbr hown hg1
      go_roundw
      case rel => exact ⟨j + 1, by omega, by go_num, by rw [Hs.out], hown3, hb1⟩
      case measure => simp [intOf]; omega
    · have hjm2 : j = m := by omega
      subst hjm2
      have h7 := H7.out
      rw [hxe] at h7
      have hend := below_t hbW hbr
      clear hxe ht
      by_cases hx0 : x < 0
      · have hd0 : decide (x < 0) = true := decide_eq_true hx0
        clear h7
        go_wp2_with fail
        go_ret2
        exact ⟨rfl, hend⟩
      · have hd0 : decide (x < 0) = false := decide_eq_false hx0
        have hx1 : (vs.length : Int) ≤ x := by omega
        have hd1 : decide ((vs.length : Int) ≤ x) = true := decide_eq_true hx1
        clear h7
        go_wp2_with fail
        go_ret2
        exact ⟨rfl, hend⟩
end Go.Proofs.Ytolkgjbljdmadaa
