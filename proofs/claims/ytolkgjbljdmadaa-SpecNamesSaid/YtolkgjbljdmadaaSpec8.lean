/- The reference's Dimensions where no number is negative. No condition beyond what each says. -/
import Derived.Test.YtolkgjbljdmadaaSpec7
namespace Go.Proofs.Ytolkgjbljdmadaa
open Go.RowKit Go.Shelf
set_option linter.unusedVariables false
set_option linter.unusedSimpArgs false

set_option maxRecDepth 100000 in
set_option maxHeartbeats 2000000 in
theorem RDims_seven (p : Option Addr) (c : Nat) (vs : List Int) (sc : Bool) (w : World) (h : Ints w p vs) (hl : vs.length ≤ 1000000) (hn : vs.any neg = false) (m : Nat) (hm : m < vs.length) (h7 : 16 ≤ m ∨ 65536 < nth vs m) (hbef : ∀ j, j < m → j < 16 ∧ ¬ 65536 < nth vs j) :
    Calls Try.prog 16 #[.agg #[.slice p vs.length c, .bool sc]] w fun e w' =>
      e = .returned (.tuple #[.slice none 0 0, .int .i64 7]) ∧ Below w.heap.size w w' := by
  have Hno := Lib.hid (any_no hn)
  have H7 := Lib.hid h7
  have Hb := Lib.hid hbef
  clear h7 hbef hn
  have hS := Sp2.new w _ (.slice p vs.length c) sc 24 rfl
  have q0 := hS.c0
  have hk := h.keep (below_alloc w (.cells #[.slice p vs.length c, .bool sc] 24))
  go_enter Try.func16, Try.ntmps16
  go_wp2_with fail
  go_loop [4] (fun i => ∃ k : Nat, k ≤ vs.length ∧ i = .int .i64 k) (fun i => vs.length - (intOf i).toNat)
  case atStart => exact ⟨0, Nat.zero_le _, rfl⟩
  case round =>
    obtain ⟨k, hkl, rfl⟩ := hrel
    by_cases hlt : k < vs.length
    · obtain ⟨b1, o1, rfl, -, hc1⟩ := hk.at hlt
      have hki : (k : Int) < (vs.length : Int) := by omega
      have hx := Hno.out _ (nth_mem hlt)
      obtain ⟨x, hxe⟩ : ∃ x, nth vs k = x := ⟨_, rfl⟩
      rw [hxe] at hx hc1
      have hx0 : decide (x < 0) = false := hx
      have hx1 : ¬ x < 0 := of_decide_eq_false hx0
      clear hxe hx
      go_wp2_with fail
      go_round
      case rel => exact ⟨k + 1, by omega, by go_num⟩
      case measure => simp [intOf]; omega
    · have hki : ¬ (k : Int) < (vs.length : Int) := by omega
      obtain ⟨W, hW⟩ : ∃ W, w.alloc (.cells #[.slice p vs.length c, .bool sc] 24) = W := ⟨_, rfl⟩
      have hbW : Below w.heap.size w W := hW ▸ below_alloc _ _
      rw [hW] at hS hk q0
      rw [hW]
      clear hW
      go_wp2_with fail
      go_loopw [5, 6] (fun o i wr => ∃ (k : Nat), k ≤ m ∧ i = .int .i64 k ∧ wr.ownsRow W.heap.size 3 1 o k ((vs.take k).map (.int .i64)) ∧ Below W.heap.size W wr) (fun _ i _ => m - (intOf i).toNat)
      case atStart => exact ⟨0, Nat.zero_le _, rfl, by simpa using World.ownsRow_nil _ _ _ _, Below.refl _ _⟩
      case round =>
        obtain ⟨j, hj, rfl, hown, hbr⟩ := hrel
        have hbs := hbr.size
        have hjl : j < vs.length := by omega
        have q1 := (hS.keep hbr).c0
        obtain ⟨b1, o1, rfl, -, hc1⟩ := (hk.keep hbr).at hjl
        have hji : (j : Int) < (vs.length : Int) := by omega
        by_cases hjm : j < m
        · obtain ⟨hj16, hjb⟩ := Hb.out j hjm
          have hj16' : decide ((16 : Int) ≤ (j : Int)) = false := decide_eq_false (by omega)
          have hj16'' : ¬ (16 : Int) ≤ (j : Int) := by omega
          have Htk := Lib.hid (take_nth hjl)
          obtain ⟨x, hxe⟩ : ∃ x, nth vs j = x := ⟨_, rfl⟩
          rw [hxe] at hjb hc1 Htk
          have hjb' : decide (65536 < x) = false := decide_eq_false (by omega)
          clear hxe
          go_wp2_with (at_builtin; refine append_ints rfl _ _ rfl W.heap.size _ j _ rfl (hown.alloc _) (some ⟨wr.heap.size, 0, none⟩) 1 [x] rfl (cells_one _ _ _ _ rfl) (by simp; omega) (by simp; omega) ?_; intro v' w3 hown1 hg1)
          have hb1 := below_append hbr hown hg1
          go_roundw
          case rel => exact ⟨j + 1, by omega, by go_num, by rw [Htk.out, List.map_append]; exact hown1, hb1⟩
          case measure => simp [intOf]; omega
        · have hjm2 : j = m := by omega
          subst hjm2
          obtain ⟨x, hxe⟩ : ∃ x, nth vs j = x := ⟨_, rfl⟩
          have h7 := H7.out
          rw [hxe] at hc1 h7
          have hend := below_t hbW hbr
          by_cases h16 : 16 ≤ j
          · have hj16' : decide ((16 : Int) ≤ (j : Int)) = true := decide_eq_true (by omega)
            have hj16'' : (16 : Int) ≤ (j : Int) := by omega
            clear hxe h7
            go_wp2_with fail
            go_ret2
            exact ⟨rfl, hend⟩
          · have hj16' : decide ((16 : Int) ≤ (j : Int)) = false := decide_eq_false (by omega)
            have hj16'' : ¬ (16 : Int) ≤ (j : Int) := by omega
            have hxb : 65536 < x := by omega
            have hjb' : decide (65536 < x) = true := decide_eq_true hxb
            clear hxe h7
            go_wp2_with fail
            go_ret2
            exact ⟨rfl, hend⟩

set_option maxRecDepth 100000 in
set_option maxHeartbeats 2000000 in
theorem RDims_end (p : Option Addr) (c : Nat) (vs : List Int) (sc : Bool) (w : World) (h : Ints w p vs) (hl : vs.length ≤ 1000000) (hn : vs.any neg = false) (h16 : vs.length ≤ 16) (hbef : ∀ x ∈ vs, ¬ 65536 < x) (z : Int) (hz : shapeS vs = z) :
    Calls Try.prog 16 #[.agg #[.slice p vs.length c, .bool sc]] w fun e w' =>
      (if z = 0 then ∃ q c', e = .returned (.tuple #[.slice q vs.length c', .int .i64 0]) ∧ Ints w' q vs else e = .returned (.tuple #[.slice none 0 0, .int .i64 z])) ∧ Below w.heap.size w w' := by
  have Hno := Lib.hid (any_no hn)
  have Hz := Lib.hid fun q c w hw => RefCheck_is vs z hz q c w hw
  have Hb := Lib.hid hbef
  clear hbef hn hz
  have hS := Sp2.new w _ (.slice p vs.length c) sc 24 rfl
  have q0 := hS.c0
  have hk := h.keep (below_alloc w (.cells #[.slice p vs.length c, .bool sc] 24))
  go_enter Try.func16, Try.ntmps16
  go_wp2_with fail
  go_loop [4] (fun i => ∃ k : Nat, k ≤ vs.length ∧ i = .int .i64 k) (fun i => vs.length - (intOf i).toNat)
  case atStart => exact ⟨0, Nat.zero_le _, rfl⟩
  case round =>
    obtain ⟨k, hkl, rfl⟩ := hrel
    by_cases hlt : k < vs.length
    · obtain ⟨b1, o1, rfl, -, hc1⟩ := hk.at hlt
      have hki : (k : Int) < (vs.length : Int) := by omega
      have hx := Hno.out _ (nth_mem hlt)
      obtain ⟨x, hxe⟩ : ∃ x, nth vs k = x := ⟨_, rfl⟩
      rw [hxe] at hx hc1
      have hx0 : decide (x < 0) = false := hx
      have hx1 : ¬ x < 0 := of_decide_eq_false hx0
      clear hxe hx
      go_wp2_with fail
      go_round
      case rel => exact ⟨k + 1, by omega, by go_num⟩
      case measure => simp [intOf]; omega
    · have hki : ¬ (k : Int) < (vs.length : Int) := by omega
      obtain ⟨W, hW⟩ : ∃ W, w.alloc (.cells #[.slice p vs.length c, .bool sc] 24) = W := ⟨_, rfl⟩
      have hbW : Below w.heap.size w W := hW ▸ below_alloc _ _
      rw [hW] at hS hk q0
      rw [hW]
      clear hW
      go_wp2_with fail
      go_loopw [5, 6] (fun o i wr => ∃ (k : Nat), k ≤ vs.length ∧ i = .int .i64 k ∧ wr.ownsRow W.heap.size 3 1 o k ((vs.take k).map (.int .i64)) ∧ Below W.heap.size W wr) (fun _ i _ => vs.length - (intOf i).toNat)
      case atStart => exact ⟨0, Nat.zero_le _, rfl, by simpa using World.ownsRow_nil _ _ _ _, Below.refl _ _⟩
      case round =>
        obtain ⟨j, hj, rfl, hown, hbr⟩ := hrel
        have hbs := hbr.size
        have q1 := (hS.keep hbr).c0
        by_cases hjl : j < vs.length
        · obtain ⟨b1, o1, rfl, -, hc1⟩ := (hk.keep hbr).at hjl
          have hji : (j : Int) < (vs.length : Int) := by omega
          have hjb := Hb.out _ (nth_mem hjl)
          have hj16 : j < 16 := by omega
          have hj16' : decide ((16 : Int) ≤ (j : Int)) = false := decide_eq_false (by omega)
          have hj16'' : ¬ (16 : Int) ≤ (j : Int) := by omega
          have Htk := Lib.hid (take_nth hjl)
          obtain ⟨x, hxe⟩ : ∃ x, nth vs j = x := ⟨_, rfl⟩
          rw [hxe] at hjb hc1 Htk
          have hjb' : decide (65536 < x) = false := decide_eq_false (by omega)
          clear hxe
          go_wp2_with (at_builtin; refine append_ints rfl _ _ rfl W.heap.size _ j _ rfl (hown.alloc _) (some ⟨wr.heap.size, 0, none⟩) 1 [x] rfl (cells_one _ _ _ _ rfl) (by simp; omega) (by simp; omega) ?_; intro v' w3 hown1 hg1)
          have hb1 := below_append hbr hown hg1
          go_roundw
          case rel => exact ⟨j + 1, by omega, by go_num, by rw [Htk.out, List.map_append]; exact hown1, hb1⟩
          case measure => simp [intOf]; omega
        · have hji : ¬ (j : Int) < (vs.length : Int) := by omega
          obtain ⟨q, cq, rfl, hnew⟩ := row_new hown
          rw [List.take_of_length_le (by omega)] at hnew ⊢
          have hlm : (vs.map (Value.int .i64)).length = vs.length := by simp
          rw [hlm]
          have hq := hnew.ints h.i64 h.small
          have hend := below_t hbW hbr
          go_wp2_with fail
          refine (Hz.out q cq _ hq).mono ?_
          rintro e3 w3 ⟨rfl, rfl⟩
          by_cases hz0 : z = 0
          · have hzb : (z != 0) = false := by simp [hz0]
            go_wp2_with fail
            go_ret2
            all_goals first | exact ⟨⟨q, ⟨cq, rfl⟩, hq⟩, hend⟩ | exact ⟨⟨q, cq, rfl, hq⟩, hend⟩ | (exfalso; omega)
          · have hzb : (z != 0) = true := by simp [hz0]
            go_wp2_with fail
            go_ret2
            all_goals first | exact ⟨rfl, hend⟩ | (exfalso; omega)
end Go.Proofs.Ytolkgjbljdmadaa
