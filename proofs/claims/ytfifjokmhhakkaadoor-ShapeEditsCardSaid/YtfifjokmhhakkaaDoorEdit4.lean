/- The reference's Insert and Remove. No condition beyond what each says. -/
import Derived.Test.YtfifjokmhhakkaaDoorEdit3
namespace Go.Proofs.YtfifjokmhhakkaaDoor
open Go.RowKit Go.Shelf
set_option linter.unusedVariables false
set_option linter.unusedSimpArgs false

/-- what Remove has behind i rounds -/
def remX (xs : List Int) (k i : Nat) : List Int := if i ≤ k then xs.take i else xs.take k ++ (xs.take i).drop (k + 1)
theorem remX_keep {xs : List Int} {k i : Nat} (hi : i < xs.length) (hk : i ≠ k) : remX xs k (i + 1) = remX xs k i ++ [nth xs i] := by
  unfold remX
  by_cases h : i < k
  · rw [if_pos (by omega), if_pos (by omega), take_nth hi]
  · rw [if_neg (by omega), if_neg (by omega), take_nth hi, List.drop_append_of_le_length (by rw [List.length_take]; omega), List.append_assoc]
theorem remX_skip {xs : List Int} {k : Nat} (hk : k < xs.length) : remX xs k (k + 1) = remX xs k k := by
  unfold remX
  rw [if_neg (by omega), if_pos (Nat.le_refl _), List.drop_eq_nil_of_le (by rw [List.length_take]; omega), List.append_nil]
theorem remX_all {xs : List Int} {k : Nat} (hk : k < xs.length) : remX xs k xs.length = xs.take k ++ [] ++ xs.drop (k + 1) := by
  unfold remX
  rw [if_neg (by omega), List.take_length, List.append_nil]
theorem remX_len {xs : List Int} {k i : Nat} (hi : i ≤ xs.length) : (remX xs k i).length ≤ i := by
  unfold remX
  split
  · rw [List.length_take]; omega
  · rw [List.length_append, List.length_drop, List.length_take, List.length_take]; omega
/-- what Insert has behind i rounds -/
def insX (xs : List Int) (k : Nat) (x : Int) (i : Nat) : List Int := if i ≤ k then xs.take i else xs.take k ++ [x] ++ (xs.take i).drop k
theorem insX_before {xs : List Int} {k i : Nat} {x : Int} (hi : i < xs.length) (hk : i < k) : insX xs k x (i + 1) = insX xs k x i ++ [nth xs i] := by
  unfold insX
  rw [if_pos (by omega), if_pos (by omega), take_nth hi]
theorem insX_at {xs : List Int} {k : Nat} {x : Int} (hk : k < xs.length) : insX xs k x (k + 1) = (insX xs k x k ++ [x]) ++ [nth xs k] := by
  unfold insX
  rw [if_neg (by omega), if_pos (Nat.le_refl _), take_nth hk, List.drop_append_of_le_length (by rw [List.length_take]; omega), List.drop_eq_nil_of_le (by rw [List.length_take]; omega), List.nil_append]
theorem insX_end {xs : List Int} {k : Nat} {x : Int} (hk : k = xs.length) : insX xs k x (k + 1) = insX xs k x k ++ [x] := by
  unfold insX
  rw [if_neg (by omega), if_pos (Nat.le_refl _), List.drop_eq_nil_of_le (by rw [List.length_take]; omega), List.append_nil]
theorem insX_behind {xs : List Int} {k i : Nat} {x : Int} (hi : i < xs.length) (hk : k < i) : insX xs k x (i + 1) = insX xs k x i ++ [nth xs i] := by
  unfold insX
  rw [if_neg (by omega), if_neg (by omega), take_nth hi, List.drop_append_of_le_length (by rw [List.length_take]; omega), List.append_assoc, List.append_assoc, List.append_assoc]
theorem insX_last {xs : List Int} {k : Nat} {x : Int} (hk : k < xs.length) : insX xs k x (xs.length + 1) = insX xs k x xs.length := by
  have e : xs.take (xs.length + 1) = xs := List.take_of_length_le (by omega)
  unfold insX
  rw [if_neg (by omega), if_neg (by omega), e, List.take_length]
theorem insX_all {xs : List Int} {k : Nat} {x : Int} (hk : k ≤ xs.length) : insX xs k x (xs.length + 1) = xs.take k ++ [x] ++ xs.drop k := by
  have e : xs.take (xs.length + 1) = xs := List.take_of_length_le (by omega)
  unfold insX
  rw [if_neg (by omega), e]
theorem insX_len {xs : List Int} {k i : Nat} {x : Int} (hi : i ≤ xs.length + 1) : (insX xs k x i).length ≤ i + 1 := by
  unfold insX
  split
  · rw [List.length_take]; omega
  · rw [List.length_append, List.length_append, List.length_drop, List.length_take, List.length_take]; simp; omega

/-- a call that returns a new list of numbers -/
def NewRet (L : List Int) (w : World) (e : Ending) (w' : World) : Prop :=
  (∃ q cap, e = .returned (.slice q L.length cap) ∧ New w.heap.size w' q 3 (L.map (.int .i64))) ∧ Below w.heap.size w w'
set_option maxRecDepth 100000 in
set_option maxHeartbeats 2000000 in
theorem RefRemove_any (p : Option Addr) (c : Nat) (xs : List Int) (k : Nat) (L : List Int) (hk : k < xs.length) (hl : xs.length ≤ 1000) (hL : xs.take k ++ [] ++ xs.drop (k + 1) = L) (w : World) (h : Ints w p xs) :
    Calls Tryd.prog 23 #[.slice p xs.length c, .int .i64 k] w (NewRet L w) := by
  have HL : Hid (remX xs k xs.length = L) := by rw [Hid, remX_all hk]; exact hL
  clear hL
  go_enter Tryd.func23, Tryd.ntmps23
  go_wp2_with fail
  go_loopw [5, 6] (fun o i wr => ∃ (j : Nat) (v : Value), j ≤ xs.length ∧ o = v ∧ i = .int .i64 j ∧ Hid (wr.ownsRow w.heap.size 3 1 v (remX xs k j).length ((remX xs k j).map (.int .i64)) ∧ Below w.heap.size w wr)) (fun _ i _ => xs.length - (intOf i).toNat)
  case atStart => exact ⟨0, _, Nat.zero_le _, rfl, rfl, by have : remX xs k 0 = [] := by simp [remX]
                                                           rw [this]; exact World.ownsRow_nil _ _ _ _, Below.refl _ _⟩
  case round =>
    obtain ⟨j, v, hj, rfl, rfl, HS⟩ := hrel
    by_cases hlt : j < xs.length
    · have hi1 : (j : Int) < (xs.length : Int) := by omega
      by_cases hjk : j = k
      · have d1 : ((j : Int) != (k : Int)) = false := by simp; omega
        have HR : Hid (remX xs k (j + 1) = remX xs k j) := by rw [Hid, hjk]; exact remX_skip hk
        clear hjk
        go_wp2_with fail
        go_roundw
        case rel => exact ⟨j + 1, _, by omega, rfl, by go_num, by rw [HR.out]; exact HS⟩
        case measure => simp [intOf]; omega
      · have d1 : ((j : Int) != (k : Int)) = true := by simp; omega
        have HR := Lib.hid (remX_keep hlt hjk)
        obtain ⟨b, o, rfl, hb, hc⟩ := (h.keep HS.out.2).at hlt
        obtain ⟨y, hy⟩ : ∃ y, nth xs j = y := ⟨_, rfl⟩
        rw [hy] at hc HR
        have hn : (remX xs k j).length ≤ 1000 := by have := remX_len (xs := xs) (k := k) hj; omega
        have hsz := HS.out.2.size
        clear hy
        go_wp2_with (at_builtin; refine append_ints rfl (.tmp 16) (.tmp 21) rfl w.heap.size _ _ _ rfl (HS.out.1.alloc _) (some ⟨wr.heap.size, 0, none⟩) 1 [y] rfl (cells_one _ _ _ _ rfl) (by simp; omega) (by simp; omega) ?_; intro v2 w2 o2 g2; have hb2 := below_append HS.out.2 HS.out.1 g2; rw [← List.map_append, ← HR.out] at o2; have hlen : (remX xs k j).length + [y].length = (remX xs k (j + 1)).length := by rw [HR.out, List.length_append])
        rw [hlen] at o2
        go_roundw
        case rel => exact ⟨j + 1, _, by omega, rfl, by go_num, o2, hb2⟩
        case measure => simp [intOf]; omega
    · have hi1 : ¬ (j : Int) < (xs.length : Int) := by omega
      have hje : j = xs.length := by omega
      have hrow := HS.out.1
      have hbz := HS.out.2
      rw [hje, HL.out] at hrow
      obtain ⟨q, cap, rfl, hn⟩ := row_new hrow
      rw [List.length_map]
      clear HS hrow hje
      go_wp2_with fail
      go_ret
      exact ⟨⟨q, cap, rfl, hn⟩, hbz⟩

set_option maxRecDepth 100000 in
set_option maxHeartbeats 4000000 in
theorem RefInsert_any (p : Option Addr) (c : Nat) (xs : List Int) (k : Nat) (x : Int) (L : List Int) (hk : k ≤ xs.length) (hl : xs.length ≤ 1000) (hL : xs.take k ++ [x] ++ xs.drop k = L) (w : World) (h : Ints w p xs) :
    Calls Tryd.prog 22 #[.slice p xs.length c, .int .i64 k, .int .i64 x] w (NewRet L w) := by
  have HL : Hid (insX xs k x (xs.length + 1) = L) := by rw [Hid, insX_all hk]; exact hL
  clear hL
  go_enter Tryd.func22, Tryd.ntmps22
  go_wp2_with fail
  go_loopw [7, 8] (fun o i wr => ∃ (j : Nat) (v : Value), j ≤ xs.length + 1 ∧ o = v ∧ i = .int .i64 j ∧ Hid (wr.ownsRow w.heap.size 3 1 v (insX xs k x j).length ((insX xs k x j).map (.int .i64)) ∧ Below w.heap.size w wr)) (fun _ i _ => xs.length + 1 - (intOf i).toNat)
  case atStart => exact ⟨0, _, Nat.zero_le _, rfl, rfl, by have : insX xs k x 0 = [] := by simp [insX]
                                                           rw [this]; exact World.ownsRow_nil _ _ _ _, Below.refl _ _⟩
  case round =>
    obtain ⟨j, v, hj, rfl, rfl, HS⟩ := hrel
    have hn : (insX xs k x j).length ≤ 1002 := by have := insX_len (xs := xs) (k := k) (x := x) hj; omega
    have hsz := HS.out.2.size
    by_cases hle : j ≤ xs.length
    · have hi0 : (j : Int) ≤ (xs.length : Int) := by omega
      by_cases hjk : j = k
      · have d1 : ((j : Int) == (k : Int)) = true := by simp; omega
        by_cases hlt : j < xs.length
        · have hi1 : (j : Int) < (xs.length : Int) := by omega
          have HR : Hid (insX xs k x (j + 1) = (insX xs k x j ++ [x]) ++ [nth xs j]) := by rw [Hid, hjk]; exact insX_at (by omega)
          obtain ⟨b, o, rfl, hb, hc⟩ := (h.keep HS.out.2).at hlt
          obtain ⟨y, hy⟩ : ∃ y, nth xs j = y := ⟨_, rfl⟩
          rw [hy] at hc HR
          have hq : ∀ z, Below w.heap.size w z → z.cell? ⟨b, o + j, none⟩ = some (.int .i64 y) := fun z hz => by
            obtain ⟨b', o', hp, hb', hc'⟩ := (h.keep hz).at hlt
            cases hp
            rw [hy] at hc'
            exact hc'
          clear hy hjk hc
          go_wp2_with (first
            | (at_builtin; refine append_ints rfl (.tmp 18) (.tmp 20) rfl w.heap.size _ _ _ rfl (HS.out.1.alloc _) (some ⟨wr.heap.size, 0, none⟩) 1 [x] rfl (cells_one _ _ _ _ rfl) (by simp; omega) (by simp; omega) ?_; intro v2 w2 o2 g2; have hb2 := below_append HS.out.2 HS.out.1 g2; have hc2 := hq w2 hb2; have hs2 := hb2.size; rw [← List.map_append] at o2)
            | (at_builtin; refine append_ints rfl (.tmp 26) (.tmp 31) rfl w.heap.size _ _ _ rfl (o2.alloc _) (some ⟨w2.heap.size, 0, none⟩) 1 [y] rfl (cells_one _ _ _ _ rfl) (by simp; omega) (by simp; omega) ?_; intro v3 w3 o3 g3; have hb3 := below_append hb2 o2 g3; rw [← List.map_append, ← HR.out] at o3; have hlen : (insX xs k x j).length + [x].length + [y].length = (insX xs k x (j + 1)).length := by rw [HR.out, List.length_append, List.length_append]))
          rw [hlen] at o3
          go_roundw
          case rel => exact ⟨j + 1, _, by omega, rfl, by go_num, o3, hb3⟩
          case measure => simp [intOf]; omega
        · have hi1 : ¬ (j : Int) < (xs.length : Int) := by omega
          have HR : Hid (insX xs k x (j + 1) = insX xs k x j ++ [x]) := by rw [Hid, hjk]; exact insX_end (by omega)
          clear hjk
          go_wp2_with (at_builtin; refine append_ints rfl (.tmp 18) (.tmp 20) rfl w.heap.size _ _ _ rfl (HS.out.1.alloc _) (some ⟨wr.heap.size, 0, none⟩) 1 [x] rfl (cells_one _ _ _ _ rfl) (by simp; omega) (by simp; omega) ?_; intro v2 w2 o2 g2; have hb2 := below_append HS.out.2 HS.out.1 g2; rw [← List.map_append, ← HR.out] at o2; have hlen : (insX xs k x j).length + [x].length = (insX xs k x (j + 1)).length := by rw [HR.out, List.length_append])
          rw [hlen] at o2
          go_roundw
          case rel => exact ⟨j + 1, _, by omega, rfl, by go_num, o2, hb2⟩
          case measure => simp [intOf]; omega
      · have d1 : ((j : Int) == (k : Int)) = false := by simp; omega
        by_cases hlt : j < xs.length
        · have hi1 : (j : Int) < (xs.length : Int) := by omega
          have HR : Hid (insX xs k x (j + 1) = insX xs k x j ++ [nth xs j]) := by
            rw [Hid]
            by_cases hjl : j < k
            · exact insX_before hlt hjl
            · exact insX_behind hlt (by omega)
          obtain ⟨b, o, rfl, hb, hc⟩ := (h.keep HS.out.2).at hlt
          obtain ⟨y, hy⟩ : ∃ y, nth xs j = y := ⟨_, rfl⟩
          rw [hy] at hc HR
          clear hy
          go_wp2_with (at_builtin; refine append_ints rfl (.tmp 26) (.tmp 31) rfl w.heap.size _ _ _ rfl (HS.out.1.alloc _) (some ⟨wr.heap.size, 0, none⟩) 1 [y] rfl (cells_one _ _ _ _ rfl) (by simp; omega) (by simp; omega) ?_; intro v2 w2 o2 g2; have hb2 := below_append HS.out.2 HS.out.1 g2; rw [← List.map_append, ← HR.out] at o2; have hlen : (insX xs k x j).length + [y].length = (insX xs k x (j + 1)).length := by rw [HR.out, List.length_append])
          rw [hlen] at o2
          go_roundw
          case rel => exact ⟨j + 1, _, by omega, rfl, by go_num, o2, hb2⟩
          case measure => simp [intOf]; omega
        · have hi1 : ¬ (j : Int) < (xs.length : Int) := by omega
          have HR : Hid (insX xs k x (j + 1) = insX xs k x j) := by
            have : j = xs.length := by omega
            rw [Hid, this]
            exact insX_last (by omega)
          go_wp2_with fail
          go_roundw
          case rel => exact ⟨j + 1, _, by omega, rfl, by go_num, by rw [HR.out]; exact HS⟩
          case measure => simp [intOf]; omega
    · have hi0 : ¬ (j : Int) ≤ (xs.length : Int) := by omega
      have hje : j = xs.length + 1 := by omega
      have hrow := HS.out.1
      have hbz := HS.out.2
      rw [hje, HL.out] at hrow
      obtain ⟨q, cap, rfl, hn⟩ := row_new hrow
      rw [List.length_map]
      clear HS hrow hje
      go_wp2_with fail
      go_ret
      exact ⟨⟨q, cap, rfl, hn⟩, hbz⟩
end Go.Proofs.YtfifjokmhhakkaaDoor
