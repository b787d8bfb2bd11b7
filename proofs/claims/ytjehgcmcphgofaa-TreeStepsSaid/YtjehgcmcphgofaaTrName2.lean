/- lex.Name and its reference, at every text: whether it is a word. No condition. -/
import Derived.Test.YtjehgcmcphgofaaTrName
namespace Go.Proofs.Ytjehgcmcphgofaa
open Go.RowKit Go.Shelf
set_option linter.unusedVariables false
set_option linter.unusedSimpArgs false

theorem endN_pos {s : ByteArray} (h : letter0 s = true) : 0 < endN s := by
  unfold letter0 at h
  split at h
  · rename_i hp
    unfold endN
    obtain ⟨l⟩ := s
    obtain ⟨l⟩ := l
    cases l with
    | nil => simp [ByteArray.size] at hp
    | cons a l =>
      have ha : letB (a.toNat : Int) = true := h
      simp [List.takeWhile_cons, innB, ha]
  · cases h

theorem endN_le (s : ByteArray) : endN s ≤ s.size := by
  unfold endN
  have h := (List.takeWhile_sublist (l := s.data.toList) fun c : UInt8 => innB (c.toNat : Int)).length_le
  simpa using h

theorem endN_at {s : ByteArray} {k : Nat} (hk : k < s.size) (hall : ∀ j (h : j < s.size), j < k → innB ((s[j]'h).toNat : Int) = true) (hno : innB ((s[k]'hk).toNat : Int) = false) : endN s = k :=
  endN_eq (Nat.le_of_lt hk) hall (.inr ⟨hk, hno⟩)

set_option maxHeartbeats 1000000 in
theorem lexName_any (s : ByteArray) (w : World) : Calls Try.prog 46 #[.string s] w fun e w' => e = .returned (.bool (nameB s)) ∧ Below w.heap.size w w' := by
  have HC := Lib.hid (word_any s)
  cases hl : letter0 s with
  | false =>
    have e1 : nameB s = false := by unfold nameB; rw [hl]; rfl
    have e2 : wordN s = 0 := by unfold wordN; rw [hl]; rfl
    rw [e1]
    rw [e2] at HC
    clear e1 e2 hl
    go_enter Try.func46, Try.ntmps46
    go_wp2_with fail
    refine (HC.out _).mono ?_
    rintro e1 w1 ⟨⟨k, t, n, rfl⟩, hb⟩
    go_wp2_with fail
    go_ret
    exact ⟨rfl, hb.alloc hb.size _⟩
  | true =>
    have e2 : wordN s = (endN s : Int) := by unfold wordN; rw [hl]; rfl
    have h0 := endN_pos hl
    rw [e2] at HC
    have hd : decide ((0 : Int) < (endN s : Int)) = true := decide_eq_true (by omega)
    cases hz : decide (endN s = s.size) with
    | true =>
      have e1 : nameB s = true := by unfold nameB; rw [hl, hz]; rfl
      have hz' : ((endN s : Int) == (s.size : Int)) = true := by have := of_decide_eq_true hz; simp [this]
      rw [e1]
      obtain ⟨m, hm⟩ : ∃ m, endN s = m := ⟨_, rfl⟩
      rw [hm] at HC hd hz' h0
      clear e1 e2 hl hz hm
      go_enter Try.func46, Try.ntmps46
      go_wp2_with fail
      refine (HC.out _).mono ?_
      rintro e1 w1 ⟨⟨k, t, n, rfl⟩, hb⟩
      go_wp2_with fail
      go_ret
      exact ⟨rfl, hb.alloc hb.size _⟩
    | false =>
      have e1 : nameB s = false := by unfold nameB; rw [hl, hz]; rfl
      have hz' : ((endN s : Int) == (s.size : Int)) = false := by have := of_decide_eq_false hz; simp; omega
      rw [e1]
      obtain ⟨m, hm⟩ : ∃ m, endN s = m := ⟨_, rfl⟩
      rw [hm] at HC hd hz' h0
      clear e1 e2 hl hz hm
      go_enter Try.func46, Try.ntmps46
      go_wp2_with fail
      refine (HC.out _).mono ?_
      rintro e1 w1 ⟨⟨k, t, n, rfl⟩, hb⟩
      go_wp2_with fail
      go_ret
      exact ⟨rfl, hb.alloc hb.size _⟩

set_option maxHeartbeats 1000000 in
theorem rend_any (s : ByteArray) (w : World) (hs : s.size ≤ 9223372036854775807) : Calls Try.prog 60 #[.string s, .int .i64 0] w fun e w' => e = .returned (.int .i64 (endN s)) ∧ w = w' := by
  go_enter Try.func60, Try.ntmps60
  go_wp2
  go_loop [1] (fun i => ∃ k : Nat, k ≤ s.size ∧ i = .int .i64 k ∧ Hid (∀ j (h : j < s.size), j < k → innB ((s[j]'h).toNat : Int) = true)) (fun i => s.size - (intOf i).toNat)
  case atStart => exact ⟨0, Nat.zero_le _, rfl, fun j h hj => by omega⟩
  case round =>
    obtain ⟨k, hk, rfl, hI⟩ := hrel
    by_cases hlt : k < s.size
    · have hki : (k : Int) < (s.size : Int) := by omega
      obtain ⟨x, hx⟩ : ∃ x : Int, ((s[k]'hlt).toNat : Int) = x := ⟨_, rfl⟩
      have hstep : innB x = true → ∀ j (h : j < s.size), j < k + 1 → innB ((s[j]'h).toNat : Int) = true := fun hx' j h hj => by
        by_cases he : j = k
        · subst he; rw [hx]; exact hx'
        · exact hI.out j h (by omega)
      have hend : innB x = false → endN s = k := fun h => endN_at hlt hI.out (by rw [hx]; exact h)
      cases hl : letB x with
      | true =>
        have HI := Lib.hid (hstep (by unfold innB; rw [hl]; rfl))
        have HL := Lib.hid hl
        clear hstep hend hl
        go_wp2_with fail
        refine (rletter_is x true HL.out _).mono ?_
        rintro e1 w1 ⟨rfl, rfl⟩
        go_wp2_with fail
        go_round
        case rel => exact ⟨k + 1, by omega, by go_num, HI⟩
        case measure => simp [intOf]; omega
      | false =>
        cases hd : digB x with
        | true =>
          have HI := Lib.hid (hstep (by unfold innB; rw [hl, hd]; rfl))
          have HL := Lib.hid hl
          have HD := Lib.hid hd
          clear hstep hend hl hd
          go_wp2_with fail
          refine (rletter_is x false HL.out _).mono ?_
          rintro e1 w1 ⟨rfl, rfl⟩
          go_wp2_with fail
          refine (rdigit_is x true HD.out _).mono ?_
          rintro e1 w1 ⟨rfl, rfl⟩
          go_wp2_with fail
          go_round
          case rel => exact ⟨k + 1, by omega, by go_num, HI⟩
          case measure => simp [intOf]; omega
        | false =>
          have HI := Lib.hid (hend (by unfold innB; rw [hl, hd]; rfl))
          have HL := Lib.hid hl
          have HD := Lib.hid hd
          clear hstep hend hl hd
          go_wp2_with fail
          refine (rletter_is x false HL.out _).mono ?_
          rintro e1 w1 ⟨rfl, rfl⟩
          go_wp2_with fail
          refine (rdigit_is x false HD.out _).mono ?_
          rintro e1 w1 ⟨rfl, rfl⟩
          go_wp2_with fail
          go_ret
          exact ⟨ret_int (by rw [HI.out]), rfl⟩
    · have hki : ¬ (k : Int) < (s.size : Int) := by omega
      have HE : Hid (endN s = k) := endN_eq hk hI.out (.inl (by omega))
      go_wp2_with fail
      go_ret
      exact ⟨ret_int (by rw [HE.out]), rfl⟩

set_option maxHeartbeats 1000000 in
theorem refName_any (s : ByteArray) (w : World) (hs : s.size ≤ 9223372036854775807) : Calls Try.prog 54 #[.string s] w fun e w' => e = .returned (.bool (nameB s)) ∧ w = w' := by
  have HC := Lib.hid fun w => rend_any s w hs
  by_cases hp : 0 < s.size
  · have hl0 := letter0_of hp
    have hpi : (0 : Int) < (s.size : Int) := by omega
    obtain ⟨x, hx⟩ : ∃ x : Int, ((s[0]'hp).toNat : Int) = x := ⟨_, rfl⟩
    rw [hx] at hl0
    cases hl : letB x with
    | false =>
      have e1 : nameB s = false := by unfold nameB; rw [hl0, hl]; rfl
      rw [e1]
      have HL := Lib.hid hl
      clear e1 hl hl0
      go_enter Try.func54, Try.ntmps54
      go_wp2_with fail
      refine (rletter_is x false HL.out _).mono ?_
      rintro e w' ⟨rfl, rfl⟩
      go_wp2_with fail
      go_ret
      exact ⟨rfl, rfl⟩
    | true =>
      have HL := Lib.hid hl
      obtain ⟨m, hm⟩ : ∃ m, endN s = m := ⟨_, rfl⟩
      have hz : ((m : Int) == (s.size : Int)) = nameB s := by
        unfold nameB
        rw [hl0, hl, hm, Bool.eq_iff_iff]
        simp
        omega
      rw [← hz]
      rw [hm] at HC
      clear hl hl0 hz hm
      go_enter Try.func54, Try.ntmps54
      go_wp2_with fail
      refine (rletter_is x true HL.out _).mono ?_
      rintro e w' ⟨rfl, rfl⟩
      go_wp2_with fail
      refine (HC.out _).mono ?_
      rintro e w' ⟨rfl, rfl⟩
      go_wp2_with fail
      go_ret
      exact ⟨rfl, rfl⟩
  · have e1 : nameB s = false := by unfold nameB letter0; rw [dif_neg hp]; rfl
    have hpi : ¬ (0 : Int) < (s.size : Int) := by omega
    rw [e1]
    clear e1
    go_enter Try.func54, Try.ntmps54
    go_wp2_with fail
    go_ret
    exact ⟨rfl, rfl⟩
end Go.Proofs.Ytjehgcmcphgofaa
