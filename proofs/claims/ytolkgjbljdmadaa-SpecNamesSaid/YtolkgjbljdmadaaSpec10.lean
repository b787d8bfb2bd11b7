/- The reference's Permutation: where all numbers are axes. No condition beyond what each says. -/
import Derived.Test.YtolkgjbljdmadaaSpec9
namespace Go.Proofs.Ytolkgjbljdmadaa
open Go.RowKit Go.Shelf
set_option linter.unusedVariables false
set_option linter.unusedSimpArgs false

set_option maxRecDepth 100000 in
set_option maxHeartbeats 4000000 in
theorem RPerm_yes (p : Option Addr) (c : Nat) (vs : List Int) (sc : Bool) (w : World) (h : Ints w p vs) (hl : vs.length ≤ 1000000) (hall : ∀ x ∈ vs, 0 ≤ x ∧ x < (vs.length : Int)) (hfull : ∀ k : Nat, (k : Int) ≤ most vs → (k : Int) ∈ vs) :
    Calls Try.prog 13 #[.agg #[.slice p vs.length c, .bool sc], .int .i64 vs.length] w fun e w' =>
      (∃ q c', e = .returned (.tuple #[.slice q vs.length c', .int .i64 0]) ∧ Ints w' q vs) ∧ Below w.heap.size w w' := by
  have hnb : ((vs.length : Int) != (vs.length : Int)) = false := by simp
  have Hb := Lib.hid hall
  have hmb : most vs ≤ 1000000 := by
    rcases (most_fold vs (-1)).2.2 with e | e
    · have e' : most vs = -1 := e
      omega
    · have e' : most vs < (vs.length : Int) := (hall _ e).2
      omega
  have Hi := Lib.hid h.i64
  have Hfull := Lib.hid hfull
  have hmn : -1 ≤ most vs := (most_fold vs (-1)).1
  clear hall hfull
  obtain ⟨W, hW⟩ : ∃ W, w.alloc (.cells #[.slice p vs.length c, .bool sc] 24) = W := ⟨_, rfl⟩
  have hS := Sp2.new w _ (.slice p vs.length c) sc 24 rfl
  have hk := h.keep (below_alloc w (.cells #[.slice p vs.length c, .bool sc] 24))
  have hbW : Below w.heap.size w W := hW ▸ below_alloc _ _
  rw [hW] at hS hk
  have HW := Lib.hid hW
  clear hW
  go_enter Try.func13, Try.ntmps13
  go_wp2_with fail
  rw [HW.out]
  go_loopw [6, 7, 8] (fun o t i wr => ∃ (k : Nat), k ≤ vs.length ∧ i = .int .i64 k ∧ t = .int .i64 (most (vs.take k)) ∧ wr.ownsRow W.heap.size 3 1 o k ((vs.take k).map (.int .i64)) ∧ Below W.heap.size W wr) (fun _ _ i _ => vs.length - (intOf i).toNat)
  case atStart => exact ⟨0, Nat.zero_le _, rfl, rfl, by simpa using World.ownsRow_nil _ _ _ _, Below.refl _ _⟩
  case round =>
    obtain ⟨j, hj, rfl, rfl, hown, hbr⟩ := hrel
    have hbs := hbr.size
    by_cases hjl : j < vs.length
    · have q1 := (hS.keep hbr).c0
      obtain ⟨b1, o1, rfl, -, hc1⟩ := (hk.keep hbr).at hjl
      have hji : (j : Int) < (vs.length : Int) := by omega
      obtain ⟨x, hxe⟩ : ∃ x, nth vs j = x := ⟨_, rfl⟩
      have HX := Lib.hid hxe
      obtain ⟨t, ht⟩ : ∃ t, most (vs.take j) = t := ⟨_, rfl⟩
      rw [hxe] at hc1
      have Hs : Hid (most (vs.take (j + 1)) = if t < x then x else t) := by
        show most (vs.take (j + 1)) = _
        rw [take_nth hjl, most_snoc, ht, hxe]
      rw [ht]
      obtain ⟨hx0, hx1⟩ := Hb.out _ (nth_mem hjl)
      rw [hxe] at hx0 hx1
      have hd0 : decide (x < 0) = false := decide_eq_false (by omega)
      have hd1 : decide ((vs.length : Int) ≤ x) = false := decide_eq_false (by omega)
      clear hxe ht
      go_wp2_with (at_builtin; refine append_ints rfl _ _ rfl W.heap.size _ j _ rfl (hown.alloc _) (some ⟨wr.heap.size, 0, none⟩) 1 [x] rfl (cells_one _ _ _ _ rfl) (by simp; omega) (by simp; omega) ?_; intro v' w3 hown1 hg1; obtain ⟨b3, o3, c3, rfl, hc3, hown3⟩ := row_one hjl HX.out Hi.out hl hown1; have q3 := (hS.keep (below_append hbr hown hg1)).c0)
      have hb1 := below_append hbr hown hg1
      go_roundw
      case rel => exact ⟨j + 1, by omega, by go_num, by rw [Hs.out], hown3, hb1⟩
      case measure => simp [intOf]; omega
    · have hji : ¬ (j : Int) < (vs.length : Int) := by omega
      obtain ⟨q, cq, rfl, hnew⟩ := row_new hown
      rw [List.take_of_length_le (by omega)] at hnew ⊢
      have hlm : (vs.map (Value.int .i64)).length = vs.length := by simp
      rw [hlm]
      have hq := hnew.ints Hi.out h.small
      have hend := below_t hbW hbr
      obtain ⟨M, hM⟩ : ∃ M, most vs = M := ⟨_, rfl⟩
      rw [hM] at hmb hmn ⊢
      go_wp2_with fail
      go_loop [9, 10, 11] (fun u _ _ => ∃ k : Nat, u = .int .i64 k ∧ (k : Int) ≤ M + 1) (fun u _ _ => (M + 1).toNat - (intOf u).toNat)
      case atStart => exact ⟨0, rfl, by omega⟩
      case round =>
        obtain ⟨k, rfl, hk2⟩ := hrel
        by_cases hkM : (k : Int) ≤ M
        · go_wp2_with fail
          go_loop [10, 11] (fun f u => ∃ i : Nat, i ≤ vs.length ∧ u = .int .i64 i ∧ f = .bool (decide ((k : Int) ∈ vs.take i))) (fun _ u => vs.length - (intOf u).toNat)
          case atStart => exact ⟨0, Nat.zero_le _, rfl, by simp⟩
          case round =>
            obtain ⟨i, hi, rfl, rfl⟩ := hrel
            by_cases hil : i < vs.length
            · obtain ⟨b4, o4, rfl, -, hc4⟩ := hq.at hil
              have hii : (i : Int) < (vs.length : Int) := by omega
              obtain ⟨x, hxe⟩ : ∃ x, nth vs i = x := ⟨_, rfl⟩
              have Hmem : Hid (((k : Int) ∈ vs.take (i + 1)) ↔ (k : Int) ∈ vs.take i ∨ x = (k : Int)) := by
                show _ ↔ _
                rw [take_nth hil, List.mem_append, List.mem_singleton, hxe]
                constructor <;> (rintro (h | h); exact .inl h; exact .inr h.symm)
              rw [hxe] at hc4
              clear hxe
              cases hf : decide ((k : Int) ∈ vs.take i) with
              | true =>
                have hf' := of_decide_eq_true hf
                clear hf
                go_wp2_with fail
                go_round
                case rel => exact ⟨i + 1, by omega, by go_num, by rw [decide_eq_true (Hmem.out.2 (.inl hf'))]⟩
                case measure => simp [intOf]; omega
              | false =>
                have hf' := of_decide_eq_false hf
                clear hf
                by_cases hxk : x = (k : Int)
                · have hxb : (x == (k : Int)) = true := by simp [hxk]
                  have Hr : Hid (decide ((k : Int) ∈ vs.take (i + 1)) = true) := decide_eq_true (Hmem.out.2 (.inr hxk))
                  clear hxk
                  go_wp2_with fail
                  go_round
                  case rel => exact ⟨i + 1, by omega, by go_num, by rw [Hr.out]⟩
                  case measure => simp [intOf]; omega
                · have hxb : (x == (k : Int)) = false := by simp [hxk]
                  have Hr : Hid (decide ((k : Int) ∈ vs.take (i + 1)) = false) := decide_eq_false (fun h => (Hmem.out.1 h).elim hf' hxk)
                  clear hxk
                  go_wp2_with fail
                  go_round
                  case rel => exact ⟨i + 1, by omega, by go_num, by rw [Hr.out]⟩
                  case measure => simp [intOf]; omega
            · have hii : ¬ (i : Int) < (vs.length : Int) := by omega
              rw [List.take_of_length_le (by omega)]
              have hkin : decide ((k : Int) ∈ vs) = true := decide_eq_true (Hfull.out k (hM ▸ hkM))
              rw [hkin]
              go_wp2_with fail
              go_round
              case rel => exact ⟨k + 1, by go_num, by omega⟩
              case measure => simp [intOf]; omega
        · go_wp2_with fail
          go_ret2
          first | exact ⟨⟨q, ⟨cq, rfl⟩, hq⟩, hend⟩ | exact ⟨⟨q, cq, rfl, hq⟩, hend⟩

set_option maxRecDepth 100000 in
set_option maxHeartbeats 4000000 in
theorem RPerm_gap (p : Option Addr) (c : Nat) (vs : List Int) (sc : Bool) (w : World) (h : Ints w p vs) (hl : vs.length ≤ 1000000) (hall : ∀ x ∈ vs, 0 ≤ x ∧ x < (vs.length : Int)) (g : Nat) (hg : (g : Int) ≤ most vs) (hgn : (g : Int) ∉ vs) (hgb : ∀ k : Nat, k < g → (k : Int) ∈ vs) :
    Calls Try.prog 13 #[.agg #[.slice p vs.length c, .bool sc], .int .i64 vs.length] w fun e w' =>
      e = .returned (.tuple #[.slice none 0 0, .int .i64 6]) ∧ Below w.heap.size w w' := by
  have hnb : ((vs.length : Int) != (vs.length : Int)) = false := by simp
  have Hb := Lib.hid hall
  have hmb : most vs ≤ 1000000 := by
    rcases (most_fold vs (-1)).2.2 with e | e
    · have e' : most vs = -1 := e
      omega
    · have e' : most vs < (vs.length : Int) := (hall _ e).2
      omega
  have Hi := Lib.hid h.i64
  have Hgb := Lib.hid hgb
  have Hgn := Lib.hid hgn
  have hmn : -1 ≤ most vs := (most_fold vs (-1)).1
  clear hall hgb hgn
  obtain ⟨W, hW⟩ : ∃ W, w.alloc (.cells #[.slice p vs.length c, .bool sc] 24) = W := ⟨_, rfl⟩
  have hS := Sp2.new w _ (.slice p vs.length c) sc 24 rfl
  have hk := h.keep (below_alloc w (.cells #[.slice p vs.length c, .bool sc] 24))
  have hbW : Below w.heap.size w W := hW ▸ below_alloc _ _
  rw [hW] at hS hk
  have HW := Lib.hid hW
  clear hW
  go_enter Try.func13, Try.ntmps13
  go_wp2_with fail
  rw [HW.out]
  go_loopw [6, 7, 8] (fun o t i wr => ∃ (k : Nat), k ≤ vs.length ∧ i = .int .i64 k ∧ t = .int .i64 (most (vs.take k)) ∧ wr.ownsRow W.heap.size 3 1 o k ((vs.take k).map (.int .i64)) ∧ Below W.heap.size W wr) (fun _ _ i _ => vs.length - (intOf i).toNat)
  case atStart => exact ⟨0, Nat.zero_le _, rfl, rfl, by simpa using World.ownsRow_nil _ _ _ _, Below.refl _ _⟩
  case round =>
    obtain ⟨j, hj, rfl, rfl, hown, hbr⟩ := hrel
    have hbs := hbr.size
    by_cases hjl : j < vs.length
    · have q1 := (hS.keep hbr).c0
      obtain ⟨b1, o1, rfl, -, hc1⟩ := (hk.keep hbr).at hjl
      have hji : (j : Int) < (vs.length : Int) := by omega
      obtain ⟨x, hxe⟩ : ∃ x, nth vs j = x := ⟨_, rfl⟩
      have HX := Lib.hid hxe
      obtain ⟨t, ht⟩ : ∃ t, most (vs.take j) = t := ⟨_, rfl⟩
      rw [hxe] at hc1
      have Hs : Hid (most (vs.take (j + 1)) = if t < x then x else t) := by
        show most (vs.take (j + 1)) = _
        rw [take_nth hjl, most_snoc, ht, hxe]
      rw [ht]
      obtain ⟨hx0, hx1⟩ := Hb.out _ (nth_mem hjl)
      rw [hxe] at hx0 hx1
      have hd0 : decide (x < 0) = false := decide_eq_false (by omega)
      have hd1 : decide ((vs.length : Int) ≤ x) = false := decide_eq_false (by omega)
      clear hxe ht
      go_wp2_with (at_builtin; refine append_ints rfl _ _ rfl W.heap.size _ j _ rfl (hown.alloc _) (some ⟨wr.heap.size, 0, none⟩) 1 [x] rfl (cells_one _ _ _ _ rfl) (by simp; omega) (by simp; omega) ?_; intro v' w3 hown1 hg1; obtain ⟨b3, o3, c3, rfl, hc3, hown3⟩ := row_one hjl HX.out Hi.out hl hown1; have q3 := (hS.keep (below_append hbr hown hg1)).c0)
      have hb1 := below_append hbr hown hg1
      go_roundw
      case rel => exact ⟨j + 1, by omega, by go_num, by rw [Hs.out], hown3, hb1⟩
      case measure => simp [intOf]; omega
    · have hji : ¬ (j : Int) < (vs.length : Int) := by omega
      obtain ⟨q, cq, rfl, hnew⟩ := row_new hown
      rw [List.take_of_length_le (by omega)] at hnew ⊢
      have hlm : (vs.map (Value.int .i64)).length = vs.length := by simp
      rw [hlm]
      have hq := hnew.ints Hi.out h.small
      have hend := below_t hbW hbr
      obtain ⟨M, hM⟩ : ∃ M, most vs = M := ⟨_, rfl⟩
      rw [hM] at hmb hmn hg ⊢
      go_wp2_with fail
      go_loop [9, 10, 11] (fun u _ _ => ∃ k : Nat, u = .int .i64 k ∧ k ≤ g) (fun u _ _ => (M + 1).toNat - (intOf u).toNat)
      case atStart => exact ⟨0, rfl, Nat.zero_le _⟩
      case round =>
        obtain ⟨k, rfl, hk2⟩ := hrel
        by_cases hkM : (k : Int) ≤ M
        · go_wp2_with fail
          go_loop [10, 11] (fun f u => ∃ i : Nat, i ≤ vs.length ∧ u = .int .i64 i ∧ f = .bool (decide ((k : Int) ∈ vs.take i))) (fun _ u => vs.length - (intOf u).toNat)
          case atStart => exact ⟨0, Nat.zero_le _, rfl, by simp⟩
          case round =>
            obtain ⟨i, hi, rfl, rfl⟩ := hrel
            by_cases hil : i < vs.length
            · obtain ⟨b4, o4, rfl, -, hc4⟩ := hq.at hil
              have hii : (i : Int) < (vs.length : Int) := by omega
              obtain ⟨x, hxe⟩ : ∃ x, nth vs i = x := ⟨_, rfl⟩
              have Hmem : Hid (((k : Int) ∈ vs.take (i + 1)) ↔ (k : Int) ∈ vs.take i ∨ x = (k : Int)) := by
                show _ ↔ _
                rw [take_nth hil, List.mem_append, List.mem_singleton, hxe]
                constructor <;> (rintro (h | h); exact .inl h; exact .inr h.symm)
              rw [hxe] at hc4
              clear hxe
              cases hf : decide ((k : Int) ∈ vs.take i) with
              | true =>
                have hf' := of_decide_eq_true hf
                clear hf
                go_wp2_with fail
                go_round
                case rel => exact ⟨i + 1, by omega, by go_num, by rw [decide_eq_true (Hmem.out.2 (.inl hf'))]⟩
                case measure => simp [intOf]; omega
              | false =>
                have hf' := of_decide_eq_false hf
                clear hf
                by_cases hxk : x = (k : Int)
                · have hxb : (x == (k : Int)) = true := by simp [hxk]
                  have Hr : Hid (decide ((k : Int) ∈ vs.take (i + 1)) = true) := decide_eq_true (Hmem.out.2 (.inr hxk))
                  clear hxk
                  go_wp2_with fail
                  go_round
                  case rel => exact ⟨i + 1, by omega, by go_num, by rw [Hr.out]⟩
                  case measure => simp [intOf]; omega
                · have hxb : (x == (k : Int)) = false := by simp [hxk]
                  have Hr : Hid (decide ((k : Int) ∈ vs.take (i + 1)) = false) := decide_eq_false (fun h => (Hmem.out.1 h).elim hf' hxk)
                  clear hxk
                  go_wp2_with fail
                  go_round
                  case rel => exact ⟨i + 1, by omega, by go_num, by rw [Hr.out]⟩
                  case measure => simp [intOf]; omega
            · have hii : ¬ (i : Int) < (vs.length : Int) := by omega
              rw [List.take_of_length_le (by omega)]
              by_cases hkg : k < g
              · have hkin : decide ((k : Int) ∈ vs) = true := decide_eq_true (Hgb.out k hkg)
                rw [hkin]
                go_wp2_with fail
                go_round
                case rel => exact ⟨k + 1, by go_num, by omega⟩
                case measure => simp [intOf]; omega
              · have hkg2 : k = g := by omega
                subst hkg2
                rw [decide_eq_false Hgn.out]
                go_wp2_with fail
                go_ret2
                exact ⟨rfl, hend⟩
        · exfalso
          omega
end Go.Proofs.Ytolkgjbljdmadaa
