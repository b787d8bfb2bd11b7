/- The reference's Dimensions and Same for left operands. No condition beyond what each says. -/
import Derived.Test.YtolkgjbljdmadaaSpec6
namespace Go.Proofs.Ytolkgjbljdmadaa
open Go.RowKit Go.Shelf
set_option linter.unusedVariables false
set_option linter.unusedSimpArgs false

/-- the two cells of a left operand's variable -/
structure Sp2 (w : World) (g : Nat) (v : Value) (sc : Bool) : Prop where
  lt : g < w.heap.size
  c0 : w.cell? ⟨g, 0, none⟩ = some v
  c1 : w.cell? ⟨g, 1, none⟩ = some (.bool sc)
theorem Sp2.keep {w w' : World} {g : Nat} {v : Value} {sc : Bool} (h : Sp2 w g v sc) (hb : Below w.heap.size w w') : Sp2 w' g v sc :=
  ⟨Nat.lt_of_lt_of_le h.lt hb.size, (hb.cell (p := ⟨g, 0, none⟩) h.lt).trans h.c0, (hb.cell (p := ⟨g, 1, none⟩) h.lt).trans h.c1⟩
theorem Sp2.new (w : World) (b : Nat) (v : Value) (sc : Bool) (e : TypeId) (hb : b = w.heap.size) : Sp2 (w.alloc (.cells #[v, .bool sc] e)) b v sc := by
  subst hb
  exact ⟨by simp, by simp [go_sem], by simp [go_sem]⟩

set_option maxHeartbeats 1000000 in
theorem RDims_neg (p : Option Addr) (c : Nat) (vs : List Int) (sc : Bool) (w : World) (h : Ints w p vs) (hl : vs.length ≤ 1000000) (hn : vs.any neg = true) :
    Calls Try.prog 16 #[.agg #[.slice p vs.length c, .bool sc]] w fun e w' =>
      e = .returned (.tuple #[.slice none 0 0, .int .i64 6]) ∧ Below w.heap.size w w' := by
  obtain ⟨m, hm, h1, h2⟩ := first_any neg hn
  have H1 : nth vs m < 0 := by simpa [neg] using h1
  have H2 := Lib.hid h2
  clear h2 h1 hn
  have hS := Sp2.new w _ (.slice p vs.length c) sc 24 rfl
  have q0 := hS.c0
  have hk := h.keep (below_alloc w (.cells #[.slice p vs.length c, .bool sc] 24))
  clear hS
  go_enter Try.func16, Try.ntmps16
  go_wp2_with fail
  go_loop [4] (fun i => ∃ k : Nat, k ≤ m ∧ i = .int .i64 k) (fun i => m - (intOf i).toNat)
  case atStart => exact ⟨0, Nat.zero_le _, rfl⟩
  case round =>
    obtain ⟨k, hkm, rfl⟩ := hrel
    have hlt : k < vs.length := by omega
    obtain ⟨b1, o1, rfl, -, hc1⟩ := hk.at hlt
    have hki : (k : Int) < (vs.length : Int) := by omega
    by_cases hkm' : k < m
    · have hx := H2.out k hkm'
      obtain ⟨x, hxe⟩ : ∃ x, nth vs k = x := ⟨_, rfl⟩
      rw [hxe] at hx hc1
      have hx0 : decide (x < 0) = false := hx
      have hx1 : ¬ x < 0 := of_decide_eq_false hx0
      clear hxe hx
      go_wp2_with fail
      go_round
      case rel => exact ⟨k + 1, by omega, by go_num⟩
      case measure => simp [intOf]; omega
    · have hkm2 : k = m := by omega
      subst hkm2
      obtain ⟨x, hxe⟩ : ∃ x, nth vs k = x := ⟨_, rfl⟩
      rw [hxe] at H1 hc1
      clear hxe
      go_wp2_with fail
      go_ret2
      exact ⟨rfl, below_alloc _ _⟩

set_option maxHeartbeats 1000000 in
theorem SpSame_len (p q : Option Addr) (c d : Nat) (vs us : List Int) (sa sb : Bool) (w : World) (hd : sa ≠ sb ∨ vs.length ≠ us.length) (h1 : vs.length ≤ 1000000) (h2 : us.length ≤ 1000000) :
    Calls Try.prog 20 #[.agg #[.slice p vs.length c, .bool sa], .agg #[.slice q us.length d, .bool sb]] w fun e w' =>
      e = .returned (.bool false) ∧ Below w.heap.size w w' := by
  by_cases hs : sa = sb
  · have hl : vs.length ≠ us.length := by
      rcases hd with hd | hd
      · exact absurd hs hd
      · exact hd
    have hlb : ((vs.length : Int) != (us.length : Int)) = true := by rw [bne_iff_ne]; omega
    have hle : (vs.length : Int) ≠ (us.length : Int) := by omega
    subst hs
    clear hd
    cases sa
    all_goals
      go_enter Try.func20, Try.ntmps20
      go_wp2_with fail
      go_ret
      exact ⟨rfl, below_t (below_alloc _ _) (below_alloc _ _)⟩
  · clear hd
    cases sa <;> cases sb <;> first | exact absurd rfl hs | skip
    all_goals
      clear hs
      go_enter Try.func20, Try.ntmps20
      go_wp2_with fail
      go_ret
      exact ⟨rfl, below_t (below_alloc _ _) (below_alloc _ _)⟩

set_option maxHeartbeats 1000000 in
theorem SpSame_yes (p q : Option Addr) (c d : Nat) (vs : List Int) (sa : Bool) (w : World) (h : Ints w p vs) (h' : Ints w q vs) (hl : vs.length ≤ 1000000) :
    Calls Try.prog 20 #[.agg #[.slice p vs.length c, .bool sa], .agg #[.slice q vs.length d, .bool sa]] w fun e w' =>
      e = .returned (.bool true) ∧ Below w.heap.size w w' := by
  have hlb : ((vs.length : Int) != (vs.length : Int)) = false := by simp
  have hsb : (sa != sa) = false := by simp
  have hb2 : Below w.heap.size w ((w.alloc (.cells #[.slice p vs.length c, .bool sa] 24)).alloc (.cells #[.slice q vs.length d, .bool sa] 24)) := below_t (below_alloc _ _) (below_alloc _ _)
  have A := (Sp2.new w _ (.slice p vs.length c) sa 24 rfl).keep (below_alloc _ (.cells #[.slice q vs.length d, .bool sa] 24))
  have B := Sp2.new (w.alloc (.cells #[.slice p vs.length c, .bool sa] 24)) (w.heap.size + 1) (.slice q vs.length d) sa 24 (by simp)
  have hp := h.keep hb2
  have hq := h'.keep hb2
  obtain ⟨W, hW⟩ : ∃ W, (w.alloc (.cells #[.slice p vs.length c, .bool sa] 24)).alloc (.cells #[.slice q vs.length d, .bool sa] 24) = W := ⟨_, rfl⟩
  rw [hW] at A B hp hq hb2
  have HW := Lib.hid hW
  clear hW
  go_enter Try.func20, Try.ntmps20
  go_wp2_with fail
  rw [HW.out]
  go_loopw [5] (fun i wr => ∃ k : Nat, k ≤ vs.length ∧ i = .int .i64 k ∧ ∃ n, wr = W.drewN n) (fun i _ => vs.length - (intOf i).toNat)
  case atStart => exact ⟨0, Nat.zero_le _, rfl, 0, rfl⟩
  case round =>
    obtain ⟨k, hk, rfl, n, rfl⟩ := hrel
    have a0 := A.c0
    have b0 := B.c0
    by_cases hlt : k < vs.length
    · obtain ⟨b1, o1, rfl, -, hc1⟩ := hp.at hlt
      obtain ⟨b2, o2, rfl, -, hc2⟩ := hq.at hlt
      have hki : (k : Int) < (vs.length : Int) := by omega
      obtain ⟨x, hxe⟩ : ∃ x, nth vs k = x := ⟨_, rfl⟩
      rw [hxe] at hc1 hc2
      have hxx : (x != x) = false := by simp
      clear hxe
      go_wp2_with fail
      go_quiet (fail)
      go_wp2_with fail
      go_roundw
      case rel => exact ⟨k + 1, by omega, by go_num, _, rfl⟩
      case measure => simp [intOf]; omega
    · have hki : ¬ (k : Int) < (vs.length : Int) := by omega
      go_wp2_with fail
      go_ret
      exact ⟨rfl, hb2.trans (below_drewN _ _ _)⟩
end Go.Proofs.Ytolkgjbljdmadaa
