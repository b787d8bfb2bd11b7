/- slices.Max at []int; spec.Permutation and its function value, which keeps the numbers seen in a map. No condition beyond what each says. -/
import Derived.Test.YtolkgjbljdmadaaSpec2
namespace Go.Proofs.Ytolkgjbljdmadaa
open Go.RowKit Go.Shelf
set_option linter.unusedVariables false
set_option linter.unusedSimpArgs false

theorem most_snoc (xs : List Int) (x : Int) : most (xs ++ [x]) = if most xs < x then x else most xs := by
  unfold most
  rw [List.foldl_append]
  rfl

theorem Max_any (p : Option Addr) (c : Nat) (xs : List Int) (w : World) (h : Ints w p xs) (h0 : ∀ x ∈ xs, 0 ≤ x) (hne : 0 < xs.length) :
    Calls Try.prog 43 #[.slice p xs.length c] w fun e w' => e = .returned (.int .i64 (most xs)) ∧ w = w' := by
  have hsm := h.small
  obtain ⟨b0, o0, hp, -, hc0⟩ := h.at hne
  have Hm0 : Hid (most (xs.take 1) = nth xs 0) := by
    have := take_nth hne
    rw [Nat.zero_add] at this
    rw [this]
    have hx := h0 _ (nth_mem hne)
    simp [Hid, most]
    omega
  have H0 := Lib.hid h0
  have hp0 := hp
  subst hp0
  rw [Nat.add_zero] at hc0
  clear h0
  have hd : decide ((xs.length : Int) < 1) = false := by simp; omega
  have hd' : ¬ (xs.length : Int) < 1 := by omega
  go_enter Try.func43, Try.ntmps43
  go_wp2_with fail
  go_loop [3, 4] (fun m i => ∃ k : Nat, 1 ≤ k ∧ k ≤ xs.length ∧ i = .int .i64 k ∧ m = .int .i64 (most (xs.take k))) (fun _ i => xs.length - (intOf i).toNat)
  case atStart => exact ⟨1, Nat.le_refl _, hne, rfl, by rw [Hm0.out]⟩
  case round =>
    obtain ⟨k, hk1, hk, rfl, rfl⟩ := hrel
    obtain ⟨m, hm⟩ : ∃ m, most (xs.take k) = m := ⟨_, rfl⟩
    by_cases hlt : k < xs.length
    · obtain ⟨b1, o1, hp1, -, hc1⟩ := h.at hlt
      cases hp1
      have Hs : Hid (most (xs.take (k + 1)) = if m < nth xs k then nth xs k else m) := by
        show most (xs.take (k + 1)) = _
        rw [take_nth hlt, most_snoc, hm]
      rw [hm]
      obtain ⟨x, hx⟩ : ∃ x, nth xs k = x := ⟨_, rfl⟩
      rw [hx] at hc1 Hs
      clear hx hm
      go_wp2_with fail
      go_round
      case rel => exact ⟨k + 1, by omega, by omega, by go_num, by rw [Hs.out]⟩
      case measure => simp [intOf]; omega
    · have hkl : k = xs.length := by omega
      subst hkl
      rw [List.take_length] at hm ⊢
      go_wp2_with fail
      go_ret
      exact ⟨rfl, rfl⟩
/-- what the function value of spec.Permutation gives -/
def axisS (r x : Int) : Int × Int := if x < 0 ∨ r ≤ x then (0, 6) else (x, 0)

theorem keyInt : Maps.Keyed Try.prog 3 := Maps.int_keyed Try.underlying3

/-- the state of the numbers seen -/
structure Seen (bR bS bM : Nat) (r : Int) (vs : List Int) (k : Nat) (w : World) : Prop where
  rank : w.cell? ⟨bR, 0, none⟩ = some (.int .i64 r)
  seen : w.cell? ⟨bS, 0, none⟩ = some (.map (some bM))
  map : w.ownsMap Try.prog 3 (plainElem (H := Unit) Try.prog 4) bM k (seenD (vs.take k))

theorem Seen.keep {bR bS bM : Nat} {r : Int} {vs : List Int} {k : Nat} {w w' : World} (h : Seen bR bS bM r vs k w) (h1 : w'.heap[bR]? = w.heap[bR]?) (h2 : w'.heap[bS]? = w.heap[bS]?) (h3 : w'.heap[bM]? = w.heap[bM]?) : Seen bR bS bM r vs k w' := by
  obtain ⟨a, b, es, clock, hb, hr⟩ := h
  exact ⟨(World.cell?_of_block (w := w) h1).trans a, (World.cell?_of_block (w := w) h2).trans b, es, clock, h3.trans hb, hr⟩

set_option maxHeartbeats 1000000 in
theorem Perm1_no (v r : Int) (bR bS : Nat) (w : World) (h : w.cell? ⟨bR, 0, none⟩ = some (.int .i64 r)) (hv : v < 0 ∨ r ≤ v) :
    Calls Try.prog 42 #[.int .i64 v, .pointer (some ⟨bR, 0, none⟩), .pointer (some ⟨bS, 0, none⟩)] w fun e w' => e = .returned (.tuple #[.int .i64 0, .int .i64 6]) ∧ w = w' := by
  by_cases h0 : v < 0
  · go_enter Try.func42, Try.ntmps42
    go_wp2
    go_ret2
    exact ⟨rfl, rfl⟩
  · have h1 : r ≤ v := by omega
    go_enter Try.func42, Try.ntmps42
    go_wp2
    go_ret2
    exact ⟨rfl, rfl⟩

set_option maxHeartbeats 1000000 in
theorem Perm1_yes (v r : Int) (bR bS bM n : Nat) (D : DataW Unit) (w : World) (h : w.cell? ⟨bR, 0, none⟩ = some (.int .i64 r)) (h' : w.cell? ⟨bS, 0, none⟩ = some (.map (some bM))) (hown : w.ownsMap Try.prog 3 (plainElem (H := Unit) Try.prog 4) bM n D) (hn : n ≤ 1000000) (hi : I64 v) (h0 : ¬ v < 0) (h1 : ¬ r ≤ v) :
    Calls Try.prog 42 #[.int .i64 v, .pointer (some ⟨bR, 0, none⟩), .pointer (some ⟨bS, 0, none⟩)] w fun e w' => e = .returned (.tuple #[.int .i64 v, .int .i64 0]) ∧ w'.ownsMap Try.prog 3 (plainElem (H := Unit) Try.prog 4) bM (n + 1) (D.put (.int .i64 v) (.lit (.bool true))) ∧ w.grownBy w' (some bM) := by
  have hkey : keyOf Try.prog 3 (.int .i64 v) = some (.int .i64 v) := Maps.keyOf_int_mk Try.underlying3 (WalkArith.wf_i64 hi)
  go_enter Try.func42, Try.ntmps42
  go_wp2_with (at_mapUpdate; refine wpList_mapUpdate_own _ rfl _ _ _ 80 rfl 3 4 keyInt Try.underlying80 (plainElem (H := Unit) Try.prog 4) bM n _ rfl hown (by unfold maxLen; omega) _ _ _ rfl rfl hkey _ [] (plainElem_bool Try.underlying4 true) ?_; intro w1 hown1 hgrow1)
  go_ret2
  exact ⟨rfl, hown1, hgrow1⟩
theorem axisS_no {r v : Int} (h : v < 0 ∨ r ≤ v) : axisS r v = (0, 6) := if_pos h
theorem axisS_yes {r v : Int} (h0 : ¬ v < 0) (h1 : ¬ r ≤ v) : axisS r v = (v, 0) := if_neg (by omega)

theorem perm_conv (r : Int) (bR bS bM D : Nat) (vs : List Int) (hi : ∀ x ∈ vs, I64 x) (hl : vs.length ≤ 1000000) (hR : bR < D) (hS : bS < D) (hM : bM < D) (hRM : bR ≠ bM) (hSM : bS ≠ bM) :
    Conv 42 #[] #[.pointer (some ⟨bR, 0, none⟩), .pointer (some ⟨bS, 0, none⟩)] (some bM) D (Seen bR bS bM r vs) (axisS r) vs := by
  refine ⟨fun k W W' h hj => h.keep (hj _ hR) (hj _ hS) (hj _ hM), fun k W hk hD h => ?_⟩
  by_cases hv : nth vs k < 0 ∨ r ≤ nth vs k
  · rw [axisS_no hv]
    refine (Perm1_no (nth vs k) r bR bS W h.rank hv).mono ?_
    rintro e w' ⟨rfl, rfl⟩
    exact ⟨rfl, fun h => by simp at h, Chg.refl _ _⟩
  · have h0 : ¬ nth vs k < 0 := fun h => hv (.inl h)
    have h1 : ¬ r ≤ nth vs k := fun h => hv (.inr h)
    rw [axisS_yes h0 h1]
    refine (Perm1_yes (nth vs k) r bR bS bM k _ W h.rank h.seen h.map (by omega) (hi _ (nth_mem hk)) h0 h1).mono ?_
    rintro e w' ⟨rfl, hown, hg⟩
    refine ⟨rfl, fun _ => ⟨?_, ?_, ?_⟩, ⟨hg.os, hg.tape, hg.output, hg.size, fun j hj hn => hg.block j hj hn⟩⟩
    · exact (World.cell?_of_block (w := W) (hg.block bR (by omega) (by simpa using hRM))).trans h.rank
    · exact (World.cell?_of_block (w := W) (hg.block bS (by omega) (by simpa using hSM))).trans h.seen
    · rw [take_nth hk, seenD_snoc]
      exact hown
end Go.Proofs.Ytolkgjbljdmadaa
