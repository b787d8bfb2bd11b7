/- The law AccessTurns, walked: it returns true at all arguments and writes nothing that was there. No condition. -/
import Derived.Test.YthkfjdhakbjllaaAcc11
namespace Go.Proofs.Ythkfjdhakbjllaa
open Go.RowKit Go.Shelf
set_option linter.unusedVariables false
set_option linter.unusedSimpArgs false

theorem mem_nth {xs : List Int} {x : Int} (h : x ∈ xs) : ∃ i, i < xs.length ∧ nth xs i = x := by
  obtain ⟨i, hi, rfl⟩ := List.mem_iff_getElem.1 h
  refine ⟨i, hi, ?_⟩
  have := nth_get? hi
  rw [List.getElem?_eq_getElem hi] at this
  exact (Option.some.inj this).symm

set_option maxHeartbeats 1000000 in
theorem Turns_bad (k b e : Int) (p : Option Addr) (c : Nat) (s : List Int) (st sp md : Int) (q : Option Addr) (d : Nat) (perm : List Int) (r : Option Addr) (f : Nat) (ix : List Int) (w : World) (h : Ints w p s) (h' : Ints w q perm) (h'' : Ints w r ix) (hg : goodB k b e s st sp md = false) :
    Calls Try.prog 17 #[.agg #[.int .i64 k, .int .i64 b, .int .i64 e, .slice p s.length c, .int .i64 st, .int .i64 sp, .int .i64 md], .slice q perm.length d, .slice r ix.length f] w fun e' w' => e' = .returned (.bool true) ∧ Below w.heap.size w w' := by
  have hsm := h.small
  have hsm' := h'.small
  have hsm'' := h''.small
  have Hg := Lib.hid hg
  clear hg
  go_enter Try.func17, Try.ntmps17
  go_wp2_with fail
  refine (awake17 _).mono ?_
  rintro e1 w1 ⟨rfl, hb1⟩
  have A := (At7.new w _ k b e (.slice p s.length c) st sp md 89 rfl).keep hb1
  have hb := below_1 hb1
  clear hb1
  have hA0 := A.c0
  have hA1 := A.c1
  have hA2 := A.c2
  have hA3 := A.c3
  have hA4 := A.c4
  have hA5 := A.c5
  have hA6 := A.c6
  go_wp2_with fail
  refine (good_is k b e p c s st sp md false Hg.out _ (h.keep hb)).mono ?_
  rintro e2 w2 ⟨rfl, hb2⟩
  clear hA0
  clear hA1
  clear hA2
  clear hA3
  clear hA4
  clear hA5
  clear hA6
  have A := A.keep hb2
  have hb := below_t hb hb2
  clear hb2
  go_wp2_with fail
  refine (awake17 _).mono ?_
  rintro e w' ⟨rfl, hb9⟩
  go_wp2_with fail
  go_ret
  exact ⟨rfl, below_t hb hb9⟩

set_option maxHeartbeats 1000000 in
theorem Turns_len (k b e : Int) (p : Option Addr) (c : Nat) (s : List Int) (st sp md : Int) (q : Option Addr) (d : Nat) (perm : List Int) (r : Option Addr) (f : Nat) (ix : List Int) (w : World) (h : Ints w p s) (h' : Ints w q perm) (h'' : Ints w r ix) (hg : goodB k b e s st sp md = true) (hk : k ≠ 1) (hl : perm.length ≠ s.length) :
    Calls Try.prog 17 #[.agg #[.int .i64 k, .int .i64 b, .int .i64 e, .slice p s.length c, .int .i64 st, .int .i64 sp, .int .i64 md], .slice q perm.length d, .slice r ix.length f] w fun e' w' => e' = .returned (.bool true) ∧ Below w.heap.size w w' := by
  have hsm := h.small
  have hsm' := h'.small
  have hsm'' := h''.small
  have Hg := Lib.hid hg
  clear hg
  have hk1 : (k != 1) = true := by simp [hk]
  have hk1' : (k == 1) = false := by simp [hk]
  have hlb : ((perm.length : Int) != (s.length : Int)) = true := by rw [bne_iff_ne]; omega
  clear hk hl
  go_enter Try.func17, Try.ntmps17
  go_wp2_with fail
  refine (awake17 _).mono ?_
  rintro e1 w1 ⟨rfl, hb1⟩
  have A := (At7.new w _ k b e (.slice p s.length c) st sp md 89 rfl).keep hb1
  have hb := below_1 hb1
  clear hb1
  have hA0 := A.c0
  have hA1 := A.c1
  have hA2 := A.c2
  have hA3 := A.c3
  have hA4 := A.c4
  have hA5 := A.c5
  have hA6 := A.c6
  go_wp2_with fail
  refine (good_is k b e p c s st sp md true Hg.out _ (h.keep hb)).mono ?_
  rintro e2 w2 ⟨rfl, hb2⟩
  clear hA0
  clear hA1
  clear hA2
  clear hA3
  clear hA4
  clear hA5
  clear hA6
  have A := A.keep hb2
  have hb := below_t hb hb2
  clear hb2
  have hA0 := A.c0
  have hA3 := A.c3
  go_wp2_with fail
  refine (awake17 _).mono ?_
  rintro e w' ⟨rfl, hb9⟩
  go_wp2_with fail
  go_ret
  exact ⟨rfl, below_t hb hb9⟩

set_option maxHeartbeats 1000000 in
theorem Turns_long_k1 (k b e : Int) (p : Option Addr) (c : Nat) (s : List Int) (st sp md : Int) (q : Option Addr) (d : Nat) (perm : List Int) (r : Option Addr) (f : Nat) (ix : List Int) (w : World) (h : Ints w p s) (h' : Ints w q perm) (h'' : Ints w r ix) (hg : goodB k b e s st sp md = true) (hk : k = 1) (h16 : 16 < perm.length) :
    Calls Try.prog 17 #[.agg #[.int .i64 k, .int .i64 b, .int .i64 e, .slice p s.length c, .int .i64 st, .int .i64 sp, .int .i64 md], .slice q perm.length d, .slice r ix.length f] w fun e' w' => e' = .returned (.bool true) ∧ Below w.heap.size w w' := by
  have hsm := h.small
  have hsm' := h'.small
  have hsm'' := h''.small
  have Hg := Lib.hid hg
  clear hg
  have hk1 : (k != 1) = false := by simp [hk]
  have hk1' : (k == 1) = true := by simp [hk]
  clear hk
  go_enter Try.func17, Try.ntmps17
  go_wp2_with fail
  refine (awake17 _).mono ?_
  rintro e1 w1 ⟨rfl, hb1⟩
  have A := (At7.new w _ k b e (.slice p s.length c) st sp md 89 rfl).keep hb1
  have hb := below_1 hb1
  clear hb1
  have hA0 := A.c0
  have hA1 := A.c1
  have hA2 := A.c2
  have hA3 := A.c3
  have hA4 := A.c4
  have hA5 := A.c5
  have hA6 := A.c6
  go_wp2_with fail
  refine (good_is k b e p c s st sp md true Hg.out _ (h.keep hb)).mono ?_
  rintro e2 w2 ⟨rfl, hb2⟩
  clear hA0
  clear hA1
  clear hA2
  clear hA3
  clear hA4
  clear hA5
  clear hA6
  have A := A.keep hb2
  have hb := below_t hb hb2
  clear hb2
  have hA0 := A.c0
  have hA3 := A.c3
  go_wp2_with fail
  refine (awake17 _).mono ?_
  rintro e w' ⟨rfl, hb9⟩
  go_wp2_with fail
  go_ret
  exact ⟨rfl, below_t hb hb9⟩

set_option maxHeartbeats 1000000 in
theorem Turns_wide_k1 (k b e : Int) (p : Option Addr) (c : Nat) (s : List Int) (st sp md : Int) (q : Option Addr) (d : Nat) (perm : List Int) (r : Option Addr) (f : Nat) (ix : List Int) (w : World) (h : Ints w p s) (h' : Ints w q perm) (h'' : Ints w r ix) (hg : goodB k b e s st sp md = true) (hk : k = 1) (h16 : ¬ 16 < perm.length) (hx16 : 16 < ix.length) :
    Calls Try.prog 17 #[.agg #[.int .i64 k, .int .i64 b, .int .i64 e, .slice p s.length c, .int .i64 st, .int .i64 sp, .int .i64 md], .slice q perm.length d, .slice r ix.length f] w fun e' w' => e' = .returned (.bool true) ∧ Below w.heap.size w w' := by
  have hsm := h.small
  have hsm' := h'.small
  have hsm'' := h''.small
  have Hg := Lib.hid hg
  clear hg
  have hk1 : (k != 1) = false := by simp [hk]
  have hk1' : (k == 1) = true := by simp [hk]
  clear hk
  go_enter Try.func17, Try.ntmps17
  go_wp2_with fail
  refine (awake17 _).mono ?_
  rintro e1 w1 ⟨rfl, hb1⟩
  have A := (At7.new w _ k b e (.slice p s.length c) st sp md 89 rfl).keep hb1
  have hb := below_1 hb1
  clear hb1
  have hA0 := A.c0
  have hA1 := A.c1
  have hA2 := A.c2
  have hA3 := A.c3
  have hA4 := A.c4
  have hA5 := A.c5
  have hA6 := A.c6
  go_wp2_with fail
  refine (good_is k b e p c s st sp md true Hg.out _ (h.keep hb)).mono ?_
  rintro e2 w2 ⟨rfl, hb2⟩
  clear hA0
  clear hA1
  clear hA2
  clear hA3
  clear hA4
  clear hA5
  clear hA6
  have A := A.keep hb2
  have hb := below_t hb hb2
  clear hb2
  have hA0 := A.c0
  have hA3 := A.c3
  go_wp2_with fail
  refine (awake17 _).mono ?_
  rintro e w' ⟨rfl, hb9⟩
  go_wp2_with fail
  go_ret
  exact ⟨rfl, below_t hb hb9⟩

set_option maxRecDepth 100000 in
set_option maxHeartbeats 4000000 in
theorem Turns_out_k1 (k b e : Int) (p : Option Addr) (c : Nat) (s : List Int) (st sp md : Int) (q : Option Addr) (d : Nat) (perm : List Int) (r : Option Addr) (f : Nat) (ix : List Int) (w : World) (h : Ints w p s) (h' : Ints w q perm) (h'' : Ints w r ix) (hg : goodB k b e s st sp md = true) (hk : k = 1) (h16 : ¬ 16 < perm.length) (hx16 : ¬ 16 < ix.length) (hbad : ¬ ∀ x ∈ perm, 0 ≤ x ∧ x < (ix.length : Int)) :
    Calls Try.prog 17 #[.agg #[.int .i64 k, .int .i64 b, .int .i64 e, .slice p s.length c, .int .i64 st, .int .i64 sp, .int .i64 md], .slice q perm.length d, .slice r ix.length f] w fun e' w' => e' = .returned (.bool true) ∧ Below w.heap.size w w' := by
  have hsm := h.small
  have hsm' := h'.small
  have hsm'' := h''.small
  have Hbad := Lib.hid hbad
  clear hbad
  have Hg := Lib.hid hg
  clear hg
  have hk1 : (k != 1) = false := by simp [hk]
  have hk1' : (k == 1) = true := by simp [hk]
  clear hk
  go_enter Try.func17, Try.ntmps17
  go_wp2_with fail
  refine (awake17 _).mono ?_
  rintro e1 w1 ⟨rfl, hb1⟩
  have A := (At7.new w _ k b e (.slice p s.length c) st sp md 89 rfl).keep hb1
  have hb := below_1 hb1
  clear hb1
  have hA0 := A.c0
  have hA1 := A.c1
  have hA2 := A.c2
  have hA3 := A.c3
  have hA4 := A.c4
  have hA5 := A.c5
  have hA6 := A.c6
  go_wp2_with fail
  refine (good_is k b e p c s st sp md true Hg.out _ (h.keep hb)).mono ?_
  rintro e2 w2 ⟨rfl, hb2⟩
  clear hA0
  clear hA1
  clear hA2
  clear hA3
  clear hA4
  clear hA5
  clear hA6
  have A := A.keep hb2
  have hb := below_t hb hb2
  clear hb2
  have hA0 := A.c0
  have hA3 := A.c3
  have hdp : decide (16 < (perm.length : Int)) = false := by simp; omega
  have hdx : decide (16 < (ix.length : Int)) = false := by simp; omega
  go_wp2_with fail
  clear hA0 hA3
  go_loopw [7, 8] (fun o i wr => ∃ (j : Nat), j ≤ perm.length ∧ i = .int .i64 j ∧ wr.ownsRow w2.heap.size 3 1 o j (((fromS perm ix).take j).map (.int .i64)) ∧ Below w2.heap.size w2 wr ∧ Hid (∀ i, i < j → 0 ≤ nth perm i ∧ nth perm i < (ix.length : Int))) (fun _ i _ => perm.length - (intOf i).toNat)
  case atStart => exact ⟨0, Nat.zero_le _, rfl, by simpa using World.ownsRow_nil _ _ _ _, Below.refl _ _, fun i hi => by omega⟩
  case round =>
    obtain ⟨j, hj, rfl, hown, hbr, hI⟩ := hrel
    have hbs := hbr.size
    have hbw := below_t hb hbr
    by_cases hlt : j < perm.length
    · obtain ⟨b1, o1, rfl, -, hc1⟩ := (h'.keep hbw).at hlt
      obtain ⟨z, hz⟩ : ∃ z, nth perm j = z := ⟨_, rfl⟩
      rw [hz] at hc1
      have hji : (j : Int) < (perm.length : Int) := by omega
      by_cases hz0 : z < 0
      · clear hz hI
        go_wp2
        go_ret
        exact ⟨rfl, hbw⟩
      · by_cases hz1 : (ix.length : Int) ≤ z
        · clear hz hI
          go_wp2
          go_ret
          exact ⟨rfl, hbw⟩
        · obtain ⟨zn, rfl⟩ : ∃ zn : Nat, z = (zn : Int) := ⟨z.toNat, by omega⟩
          have hzn : zn < ix.length := by omega
          obtain ⟨b2, o2, rfl, -, hc2⟩ := (h''.keep hbw).at hzn
          obtain ⟨u, hu⟩ : ∃ u, nth ix zn = u := ⟨_, rfl⟩
          rw [hu] at hc2
          have hfl : j < (fromS perm ix).length := by simp [fromS]; exact hlt
          have Htk := Lib.hid (take_nth hfl)
          have Hn : Hid (nth (fromS perm ix) j = u) := by
            have hg := nth_get? hlt
            rw [hz] at hg
            simp [Hid, fromS, nth, List.getD_eq_getElem?_getD, hg, ← hu]
          have HI : Hid (∀ i, i < j + 1 → 0 ≤ nth perm i ∧ nth perm i < (ix.length : Int)) := by
            intro i hi
            by_cases hij : i = j
            · subst hij
              rw [hz]
              exact ⟨by omega, by omega⟩
            · exact hI.out i (by omega)
          have hlf : (fromS perm ix).length ≤ 1000 := by simp [fromS]; omega
          have hd0 : decide ((zn : Int) < 0) = false := by simp
          have hd1 : decide ((ix.length : Int) ≤ (zn : Int)) = false := by simp; omega
          clear hz hI hu
          go_wp2_with (at_builtin; refine append_ints rfl _ _ rfl w2.heap.size _ j _ rfl (hown.alloc _) (some ⟨wr.heap.size, 0, none⟩) 1 [u] rfl (cells_one _ _ _ _ rfl) (by simp; omega) (by simp; omega) ?_; intro v' w3 hown1 hg1)
          have hb1 := below_append hbr hown hg1
          go_roundw
          case rel => exact ⟨j + 1, by omega, by go_num, by rw [Htk.out, Hn.out, List.map_append]; exact hown1, hb1, HI.out⟩
          case measure => simp [intOf]; omega
    · exfalso
      refine Hbad.out ?_
      intro x hx
      obtain ⟨i, hi, rfl⟩ := mem_nth hx
      exact hI.out i (by omega)

set_option maxRecDepth 100000 in
set_option maxHeartbeats 4000000 in
theorem Turns_far_k1 (k b e : Int) (p : Option Addr) (c : Nat) (s : List Int) (st sp md : Int) (q : Option Addr) (d : Nat) (perm : List Int) (r : Option Addr) (f : Nat) (ix : List Int) (w : World) (h : Ints w p s) (h' : Ints w q perm) (h'' : Ints w r ix) (hg : goodB k b e s st sp md = true) (hk : k = 1) (h16 : ¬ 16 < perm.length) (hx16 : ¬ 16 < ix.length) (hin : insideB 1 [] ix = false) :
    Calls Try.prog 17 #[.agg #[.int .i64 k, .int .i64 b, .int .i64 e, .slice p s.length c, .int .i64 st, .int .i64 sp, .int .i64 md], .slice q perm.length d, .slice r ix.length f] w fun e' w' => e' = .returned (.bool true) ∧ Below w.heap.size w w' := by
  have hsm := h.small
  have hsm' := h'.small
  have hsm'' := h''.small
  have Hin := Lib.hid hin
  clear hin
  have Hg := Lib.hid hg
  clear hg
  have hk1 : (k != 1) = false := by simp [hk]
  have hk1' : (k == 1) = true := by simp [hk]
  clear hk
  go_enter Try.func17, Try.ntmps17
  go_wp2_with fail
  refine (awake17 _).mono ?_
  rintro e1 w1 ⟨rfl, hb1⟩
  have A := (At7.new w _ k b e (.slice p s.length c) st sp md 89 rfl).keep hb1
  have hb := below_1 hb1
  clear hb1
  have hA0 := A.c0
  have hA1 := A.c1
  have hA2 := A.c2
  have hA3 := A.c3
  have hA4 := A.c4
  have hA5 := A.c5
  have hA6 := A.c6
  go_wp2_with fail
  refine (good_is k b e p c s st sp md true Hg.out _ (h.keep hb)).mono ?_
  rintro e2 w2 ⟨rfl, hb2⟩
  clear hA0
  clear hA1
  clear hA2
  clear hA3
  clear hA4
  clear hA5
  clear hA6
  have A := A.keep hb2
  have hb := below_t hb hb2
  clear hb2
  have hA0 := A.c0
  have hA3 := A.c3
  have hdp : decide (16 < (perm.length : Int)) = false := by simp; omega
  have hdx : decide (16 < (ix.length : Int)) = false := by simp; omega
  go_wp2_with fail
  clear hA0 hA3
  go_loopw [7, 8] (fun o i wr => ∃ (j : Nat), j ≤ perm.length ∧ i = .int .i64 j ∧ wr.ownsRow w2.heap.size 3 1 o j (((fromS perm ix).take j).map (.int .i64)) ∧ Below w2.heap.size w2 wr ∧ Hid (∀ i, i < j → 0 ≤ nth perm i ∧ nth perm i < (ix.length : Int))) (fun _ i _ => perm.length - (intOf i).toNat)
  case atStart => exact ⟨0, Nat.zero_le _, rfl, by simpa using World.ownsRow_nil _ _ _ _, Below.refl _ _, fun i hi => by omega⟩
  case round =>
    obtain ⟨j, hj, rfl, hown, hbr, hI⟩ := hrel
    have hbs := hbr.size
    have hbw := below_t hb hbr
    by_cases hlt : j < perm.length
    · obtain ⟨b1, o1, rfl, -, hc1⟩ := (h'.keep hbw).at hlt
      obtain ⟨z, hz⟩ : ∃ z, nth perm j = z := ⟨_, rfl⟩
      rw [hz] at hc1
      have hji : (j : Int) < (perm.length : Int) := by omega
      by_cases hz0 : z < 0
      · clear hz hI
        go_wp2
        go_ret
        exact ⟨rfl, hbw⟩
      · by_cases hz1 : (ix.length : Int) ≤ z
        · clear hz hI
          go_wp2
          go_ret
          exact ⟨rfl, hbw⟩
        · obtain ⟨zn, rfl⟩ : ∃ zn : Nat, z = (zn : Int) := ⟨z.toNat, by omega⟩
          have hzn : zn < ix.length := by omega
          obtain ⟨b2, o2, rfl, -, hc2⟩ := (h''.keep hbw).at hzn
          obtain ⟨u, hu⟩ : ∃ u, nth ix zn = u := ⟨_, rfl⟩
          rw [hu] at hc2
          have hfl : j < (fromS perm ix).length := by simp [fromS]; exact hlt
          have Htk := Lib.hid (take_nth hfl)
          have Hn : Hid (nth (fromS perm ix) j = u) := by
            have hg := nth_get? hlt
            rw [hz] at hg
            simp [Hid, fromS, nth, List.getD_eq_getElem?_getD, hg, ← hu]
          have HI : Hid (∀ i, i < j + 1 → 0 ≤ nth perm i ∧ nth perm i < (ix.length : Int)) := by
            intro i hi
            by_cases hij : i = j
            · subst hij
              rw [hz]
              exact ⟨by omega, by omega⟩
            · exact hI.out i (by omega)
          have hlf : (fromS perm ix).length ≤ 1000 := by simp [fromS]; omega
          have hd0 : decide ((zn : Int) < 0) = false := by simp
          have hd1 : decide ((ix.length : Int) ≤ (zn : Int)) = false := by simp; omega
          clear hz hI hu
          go_wp2_with (at_builtin; refine append_ints rfl _ _ rfl w2.heap.size _ j _ rfl (hown.alloc _) (some ⟨wr.heap.size, 0, none⟩) 1 [u] rfl (cells_one _ _ _ _ rfl) (by simp; omega) (by simp; omega) ?_; intro v' w3 hown1 hg1)
          have hb1 := below_append hbr hown hg1
          go_roundw
          case rel => exact ⟨j + 1, by omega, by go_num, by rw [Htk.out, Hn.out, List.map_append]; exact hown1, hb1, HI.out⟩
          case measure => simp [intOf]; omega
    · obtain ⟨pf, cf, rfl, hnew⟩ := row_new hown
      rw [List.take_of_length_le (by simp [fromS]; omega)] at hnew
      have hlm : (((fromS perm ix).take j).map (Value.int .i64)).length = perm.length := by simp [fromS]; omega
      have A1 := A.keep hbr
      have hb := hbw
      have Hall := hI
      have Hnew := Lib.hid hnew
      have Hlm := Lib.hid hlm
      clear hown hnew hI hlm A
      have A := A1
      clear A1
      go_wp2_with fail
      refine (Inside_is 1 0 0 none 0 [] 0 0 0 r f ix false Hin.out _ (Ints.nil _) (h''.keep hb)).mono ?_
      rintro e3 w3 ⟨rfl, hb3⟩
      go_wp2_with fail
      go_ret
      exact ⟨rfl, below_t hb hb3⟩

set_option maxRecDepth 100000 in
set_option maxHeartbeats 4000000 in
theorem Turns_fill (k b e : Int) (p : Option Addr) (c : Nat) (s : List Int) (st sp md : Int) (q : Option Addr) (d : Nat) (perm : List Int) (r : Option Addr) (f : Nat) (ix : List Int) (w : World) (h : Ints w p s) (h' : Ints w q perm) (h'' : Ints w r ix) (hg : goodB k b e s st sp md = true) (hk : k = 1) (h16 : ¬ 16 < perm.length) (hx16 : ¬ 16 < ix.length) (hin : insideB 1 [] ix = true) :
    Calls Try.prog 17 #[.agg #[.int .i64 k, .int .i64 b, .int .i64 e, .slice p s.length c, .int .i64 st, .int .i64 sp, .int .i64 md], .slice q perm.length d, .slice r ix.length f] w fun e' w' => e' = .returned (.bool true) ∧ Below w.heap.size w w' := by
  subst hk
  have hsm := h.small
  have hsm' := h'.small
  have hsm'' := h''.small
  have Hin := Lib.hid hin
  clear hin
  have Hg := Lib.hid hg
  clear hg
  have hk1 : ((1 : Int) != 1) = false := by rfl
  have hk1' : ((1 : Int) == 1) = true := by rfl
  go_enter Try.func17, Try.ntmps17
  go_wp2_with fail
  refine (awake17 _).mono ?_
  rintro e1 w1 ⟨rfl, hb1⟩
  have A := (At7.new w _ 1 b e (.slice p s.length c) st sp md 89 rfl).keep hb1
  have hb := below_1 hb1
  clear hb1
  have hA0 := A.c0
  have hA1 := A.c1
  have hA2 := A.c2
  have hA3 := A.c3
  have hA4 := A.c4
  have hA5 := A.c5
  have hA6 := A.c6
  go_wp2_with fail
  refine (good_is 1 b e p c s st sp md true Hg.out _ (h.keep hb)).mono ?_
  rintro e2 w2 ⟨rfl, hb2⟩
  clear hA0
  clear hA1
  clear hA2
  clear hA3
  clear hA4
  clear hA5
  clear hA6
  have A := A.keep hb2
  have hb := below_t hb hb2
  clear hb2
  have hA0 := A.c0
  have hA3 := A.c3
  have hdp : decide (16 < (perm.length : Int)) = false := by simp; omega
  have hdx : decide (16 < (ix.length : Int)) = false := by simp; omega
  go_wp2_with fail
  clear hA0 hA3
  go_loopw [7, 8] (fun o i wr => ∃ (j : Nat), j ≤ perm.length ∧ i = .int .i64 j ∧ wr.ownsRow w2.heap.size 3 1 o j (((fromS perm ix).take j).map (.int .i64)) ∧ Below w2.heap.size w2 wr ∧ Hid (∀ i, i < j → 0 ≤ nth perm i ∧ nth perm i < (ix.length : Int))) (fun _ i _ => perm.length - (intOf i).toNat)
  case atStart => exact ⟨0, Nat.zero_le _, rfl, by simpa using World.ownsRow_nil _ _ _ _, Below.refl _ _, fun i hi => by omega⟩
  case round =>
    obtain ⟨j, hj, rfl, hown, hbr, hI⟩ := hrel
    have hbs := hbr.size
    have hbw := below_t hb hbr
    by_cases hlt : j < perm.length
    · obtain ⟨b1, o1, rfl, -, hc1⟩ := (h'.keep hbw).at hlt
      obtain ⟨z, hz⟩ : ∃ z, nth perm j = z := ⟨_, rfl⟩
      rw [hz] at hc1
      have hji : (j : Int) < (perm.length : Int) := by omega
      by_cases hz0 : z < 0
      · clear hz hI
        go_wp2
        go_ret
        exact ⟨rfl, hbw⟩
      · by_cases hz1 : (ix.length : Int) ≤ z
        · clear hz hI
          go_wp2
          go_ret
          exact ⟨rfl, hbw⟩
        · obtain ⟨zn, rfl⟩ : ∃ zn : Nat, z = (zn : Int) := ⟨z.toNat, by omega⟩
          have hzn : zn < ix.length := by omega
          obtain ⟨b2, o2, rfl, -, hc2⟩ := (h''.keep hbw).at hzn
          obtain ⟨u, hu⟩ : ∃ u, nth ix zn = u := ⟨_, rfl⟩
          rw [hu] at hc2
          have hfl : j < (fromS perm ix).length := by simp [fromS]; exact hlt
          have Htk := Lib.hid (take_nth hfl)
          have Hn : Hid (nth (fromS perm ix) j = u) := by
            have hg := nth_get? hlt
            rw [hz] at hg
            simp [Hid, fromS, nth, List.getD_eq_getElem?_getD, hg, ← hu]
          have HI : Hid (∀ i, i < j + 1 → 0 ≤ nth perm i ∧ nth perm i < (ix.length : Int)) := by
            intro i hi
            by_cases hij : i = j
            · subst hij
              rw [hz]
              exact ⟨by omega, by omega⟩
            · exact hI.out i (by omega)
          have hlf : (fromS perm ix).length ≤ 1000 := by simp [fromS]; omega
          have hd0 : decide ((zn : Int) < 0) = false := by simp
          have hd1 : decide ((ix.length : Int) ≤ (zn : Int)) = false := by simp; omega
          clear hz hI hu
          go_wp2_with (at_builtin; refine append_ints rfl _ _ rfl w2.heap.size _ j _ rfl (hown.alloc _) (some ⟨wr.heap.size, 0, none⟩) 1 [u] rfl (cells_one _ _ _ _ rfl) (by simp; omega) (by simp; omega) ?_; intro v' w3 hown1 hg1)
          have hb1 := below_append hbr hown hg1
          go_roundw
          case rel => exact ⟨j + 1, by omega, by go_num, by rw [Htk.out, Hn.out, List.map_append]; exact hown1, hb1, HI.out⟩
          case measure => simp [intOf]; omega
    · obtain ⟨pf, cf, rfl, hnew⟩ := row_new hown
      rw [List.take_of_length_le (by simp [fromS]; omega)] at hnew
      have hlm : (((fromS perm ix).take j).map (Value.int .i64)).length = perm.length := by simp [fromS]; omega
      have A1 := A.keep hbr
      have hb := hbw
      have Hall := hI
      have Hnew := Lib.hid hnew
      have Hlm := Lib.hid hlm
      clear hown hnew hI hlm A
      have A := A1
      clear A1
      go_wp2_with fail
      refine (Inside_is 1 0 0 none 0 [] 0 0 0 r f ix true Hin.out _ (Ints.nil _) (h''.keep hb)).mono ?_
      rintro e3 w3 ⟨rfl, hb3⟩
      have A := A.keep hb3
      have hb := below_t hb hb3
      clear hb3
      have hA0 := A.c0
      have hA1 := A.c1
      have hA2 := A.c2
      have hA3 := A.c3
      have hA4 := A.c4
      have hA5 := A.c5
      have hA6 := A.c6
      go_wp2_with fail
      clear hA0
      clear hA1
      clear hA2
      clear hA3
      clear hA4
      clear hA5
      clear hA6
      refine (Permute_fill b e p s.length c st sp md q perm.length d ix.length _).mono ?_
      rintro e4 w4 ⟨rfl, hb4⟩
      have hba := below_alloc w4 (.cells #[.int .i64 1, .int .i64 b, .int .i64 e, .slice p s.length c, .int .i64 st, .int .i64 sp, .int .i64 md] 93)
      have D := At7.new w4 _ 1 b e (.slice p s.length c) st sp md 93 rfl
      have hb4 := below_t hb4 hba
      clear hba
      have A := A.keep hb4
      have hb := below_t hb hb4
      clear hb4
      have hA0 := A.c0
      have hA1 := A.c1
      have hA2 := A.c2
      have hA3 := A.c3
      have hA4 := A.c4
      have hA5 := A.c5
      have hA6 := A.c6
      have hD0 := D.c0
      have hD1 := D.c1
      have hD2 := D.c2
      have hD3 := D.c3
      have hD4 := D.c4
      have hD5 := D.c5
      have hD6 := D.c6
      go_wp2_with fail
      clear hA0
      clear hA1
      clear hA2
      clear hA3
      clear hA4
      clear hA5
      clear hA6
      clear hD0
      clear hD1
      clear hD2
      clear hD3
      clear hD4
      clear hD5
      clear hD6
      refine (RSame_yes 1 b e p c s st sp md p c _ (h.keep hb) (h.keep hb)).mono ?_
      rintro e5 w5 ⟨rfl, hb5⟩
      go_wp2_with fail
      go_ret
      exact ⟨rfl, below_t hb hb5⟩

set_option maxHeartbeats 1000000 in
theorem Turns_long_n (k b e : Int) (p : Option Addr) (c : Nat) (s : List Int) (st sp md : Int) (q : Option Addr) (d : Nat) (perm : List Int) (r : Option Addr) (f : Nat) (ix : List Int) (w : World) (h : Ints w p s) (h' : Ints w q perm) (h'' : Ints w r ix) (hg : goodB k b e s st sp md = true) (hk : k ≠ 1) (hl : perm.length = s.length) (h16 : 16 < perm.length) :
    Calls Try.prog 17 #[.agg #[.int .i64 k, .int .i64 b, .int .i64 e, .slice p s.length c, .int .i64 st, .int .i64 sp, .int .i64 md], .slice q perm.length d, .slice r ix.length f] w fun e' w' => e' = .returned (.bool true) ∧ Below w.heap.size w w' := by
  have hsm := h.small
  have hsm' := h'.small
  have hsm'' := h''.small
  have Hg := Lib.hid hg
  clear hg
  have hk1 : (k != 1) = true := by simp [hk]
  have hk1' : (k == 1) = false := by simp [hk]
  have hlb : ((perm.length : Int) != (s.length : Int)) = false := by rw [bne_eq_false_iff_eq]; omega
  clear hk hl
  go_enter Try.func17, Try.ntmps17
  go_wp2_with fail
  refine (awake17 _).mono ?_
  rintro e1 w1 ⟨rfl, hb1⟩
  have A := (At7.new w _ k b e (.slice p s.length c) st sp md 89 rfl).keep hb1
  have hb := below_1 hb1
  clear hb1
  have hA0 := A.c0
  have hA1 := A.c1
  have hA2 := A.c2
  have hA3 := A.c3
  have hA4 := A.c4
  have hA5 := A.c5
  have hA6 := A.c6
  go_wp2_with fail
  refine (good_is k b e p c s st sp md true Hg.out _ (h.keep hb)).mono ?_
  rintro e2 w2 ⟨rfl, hb2⟩
  clear hA0
  clear hA1
  clear hA2
  clear hA3
  clear hA4
  clear hA5
  clear hA6
  have A := A.keep hb2
  have hb := below_t hb hb2
  clear hb2
  have hA0 := A.c0
  have hA3 := A.c3
  go_wp2_with fail
  refine (awake17 _).mono ?_
  rintro e w' ⟨rfl, hb9⟩
  go_wp2_with fail
  go_ret
  exact ⟨rfl, below_t hb hb9⟩

set_option maxHeartbeats 1000000 in
theorem Turns_wide_n (k b e : Int) (p : Option Addr) (c : Nat) (s : List Int) (st sp md : Int) (q : Option Addr) (d : Nat) (perm : List Int) (r : Option Addr) (f : Nat) (ix : List Int) (w : World) (h : Ints w p s) (h' : Ints w q perm) (h'' : Ints w r ix) (hg : goodB k b e s st sp md = true) (hk : k ≠ 1) (hl : perm.length = s.length) (h16 : ¬ 16 < perm.length) (hx16 : 16 < ix.length) :
    Calls Try.prog 17 #[.agg #[.int .i64 k, .int .i64 b, .int .i64 e, .slice p s.length c, .int .i64 st, .int .i64 sp, .int .i64 md], .slice q perm.length d, .slice r ix.length f] w fun e' w' => e' = .returned (.bool true) ∧ Below w.heap.size w w' := by
  have hsm := h.small
  have hsm' := h'.small
  have hsm'' := h''.small
  have Hg := Lib.hid hg
  clear hg
  have hk1 : (k != 1) = true := by simp [hk]
  have hk1' : (k == 1) = false := by simp [hk]
  have hlb : ((perm.length : Int) != (s.length : Int)) = false := by rw [bne_eq_false_iff_eq]; omega
  clear hk hl
  go_enter Try.func17, Try.ntmps17
  go_wp2_with fail
  refine (awake17 _).mono ?_
  rintro e1 w1 ⟨rfl, hb1⟩
  have A := (At7.new w _ k b e (.slice p s.length c) st sp md 89 rfl).keep hb1
  have hb := below_1 hb1
  clear hb1
  have hA0 := A.c0
  have hA1 := A.c1
  have hA2 := A.c2
  have hA3 := A.c3
  have hA4 := A.c4
  have hA5 := A.c5
  have hA6 := A.c6
  go_wp2_with fail
  refine (good_is k b e p c s st sp md true Hg.out _ (h.keep hb)).mono ?_
  rintro e2 w2 ⟨rfl, hb2⟩
  clear hA0
  clear hA1
  clear hA2
  clear hA3
  clear hA4
  clear hA5
  clear hA6
  have A := A.keep hb2
  have hb := below_t hb hb2
  clear hb2
  have hA0 := A.c0
  have hA3 := A.c3
  go_wp2_with fail
  refine (awake17 _).mono ?_
  rintro e w' ⟨rfl, hb9⟩
  go_wp2_with fail
  go_ret
  exact ⟨rfl, below_t hb hb9⟩

set_option maxRecDepth 100000 in
set_option maxHeartbeats 4000000 in
theorem Turns_out_n (k b e : Int) (p : Option Addr) (c : Nat) (s : List Int) (st sp md : Int) (q : Option Addr) (d : Nat) (perm : List Int) (r : Option Addr) (f : Nat) (ix : List Int) (w : World) (h : Ints w p s) (h' : Ints w q perm) (h'' : Ints w r ix) (hg : goodB k b e s st sp md = true) (hk : k ≠ 1) (hl : perm.length = s.length) (h16 : ¬ 16 < perm.length) (hx16 : ¬ 16 < ix.length) (hbad : ¬ ∀ x ∈ perm, 0 ≤ x ∧ x < (ix.length : Int)) :
    Calls Try.prog 17 #[.agg #[.int .i64 k, .int .i64 b, .int .i64 e, .slice p s.length c, .int .i64 st, .int .i64 sp, .int .i64 md], .slice q perm.length d, .slice r ix.length f] w fun e' w' => e' = .returned (.bool true) ∧ Below w.heap.size w w' := by
  have hsm := h.small
  have hsm' := h'.small
  have hsm'' := h''.small
  have Hbad := Lib.hid hbad
  clear hbad
  have Hg := Lib.hid hg
  clear hg
  have hk1 : (k != 1) = true := by simp [hk]
  have hk1' : (k == 1) = false := by simp [hk]
  have hlb : ((perm.length : Int) != (s.length : Int)) = false := by rw [bne_eq_false_iff_eq]; omega
  clear hk hl
  go_enter Try.func17, Try.ntmps17
  go_wp2_with fail
  refine (awake17 _).mono ?_
  rintro e1 w1 ⟨rfl, hb1⟩
  have A := (At7.new w _ k b e (.slice p s.length c) st sp md 89 rfl).keep hb1
  have hb := below_1 hb1
  clear hb1
  have hA0 := A.c0
  have hA1 := A.c1
  have hA2 := A.c2
  have hA3 := A.c3
  have hA4 := A.c4
  have hA5 := A.c5
  have hA6 := A.c6
  go_wp2_with fail
  refine (good_is k b e p c s st sp md true Hg.out _ (h.keep hb)).mono ?_
  rintro e2 w2 ⟨rfl, hb2⟩
  clear hA0
  clear hA1
  clear hA2
  clear hA3
  clear hA4
  clear hA5
  clear hA6
  have A := A.keep hb2
  have hb := below_t hb hb2
  clear hb2
  have hA0 := A.c0
  have hA3 := A.c3
  have hdp : decide (16 < (perm.length : Int)) = false := by simp; omega
  have hdx : decide (16 < (ix.length : Int)) = false := by simp; omega
  go_wp2_with fail
  clear hA0 hA3
  go_loopw [7, 8] (fun o i wr => ∃ (j : Nat), j ≤ perm.length ∧ i = .int .i64 j ∧ wr.ownsRow w2.heap.size 3 1 o j (((fromS perm ix).take j).map (.int .i64)) ∧ Below w2.heap.size w2 wr ∧ Hid (∀ i, i < j → 0 ≤ nth perm i ∧ nth perm i < (ix.length : Int))) (fun _ i _ => perm.length - (intOf i).toNat)
  case atStart => exact ⟨0, Nat.zero_le _, rfl, by simpa using World.ownsRow_nil _ _ _ _, Below.refl _ _, fun i hi => by omega⟩
  case round =>
    obtain ⟨j, hj, rfl, hown, hbr, hI⟩ := hrel
    have hbs := hbr.size
    have hbw := below_t hb hbr
    by_cases hlt : j < perm.length
    · obtain ⟨b1, o1, rfl, -, hc1⟩ := (h'.keep hbw).at hlt
      obtain ⟨z, hz⟩ : ∃ z, nth perm j = z := ⟨_, rfl⟩
      rw [hz] at hc1
      have hji : (j : Int) < (perm.length : Int) := by omega
      by_cases hz0 : z < 0
      · clear hz hI
        go_wp2
        go_ret
        exact ⟨rfl, hbw⟩
      · by_cases hz1 : (ix.length : Int) ≤ z
        · clear hz hI
          go_wp2
          go_ret
          exact ⟨rfl, hbw⟩
        · obtain ⟨zn, rfl⟩ : ∃ zn : Nat, z = (zn : Int) := ⟨z.toNat, by omega⟩
          have hzn : zn < ix.length := by omega
          obtain ⟨b2, o2, rfl, -, hc2⟩ := (h''.keep hbw).at hzn
          obtain ⟨u, hu⟩ : ∃ u, nth ix zn = u := ⟨_, rfl⟩
          rw [hu] at hc2
          have hfl : j < (fromS perm ix).length := by simp [fromS]; exact hlt
          have Htk := Lib.hid (take_nth hfl)
          have Hn : Hid (nth (fromS perm ix) j = u) := by
            have hg := nth_get? hlt
            rw [hz] at hg
            simp [Hid, fromS, nth, List.getD_eq_getElem?_getD, hg, ← hu]
          have HI : Hid (∀ i, i < j + 1 → 0 ≤ nth perm i ∧ nth perm i < (ix.length : Int)) := by
            intro i hi
            by_cases hij : i = j
            · subst hij
              rw [hz]
              exact ⟨by omega, by omega⟩
            · exact hI.out i (by omega)
          have hlf : (fromS perm ix).length ≤ 1000 := by simp [fromS]; omega
          have hd0 : decide ((zn : Int) < 0) = false := by simp
          have hd1 : decide ((ix.length : Int) ≤ (zn : Int)) = false := by simp; omega
          clear hz hI hu
          go_wp2_with (at_builtin; refine append_ints rfl _ _ rfl w2.heap.size _ j _ rfl (hown.alloc _) (some ⟨wr.heap.size, 0, none⟩) 1 [u] rfl (cells_one _ _ _ _ rfl) (by simp; omega) (by simp; omega) ?_; intro v' w3 hown1 hg1)
          have hb1 := below_append hbr hown hg1
          go_roundw
          case rel => exact ⟨j + 1, by omega, by go_num, by rw [Htk.out, Hn.out, List.map_append]; exact hown1, hb1, HI.out⟩
          case measure => simp [intOf]; omega
    · exfalso
      refine Hbad.out ?_
      intro x hx
      obtain ⟨i, hi, rfl⟩ := mem_nth hx
      exact hI.out i (by omega)

set_option maxRecDepth 100000 in
set_option maxHeartbeats 4000000 in
theorem Turns_far_n (k b e : Int) (p : Option Addr) (c : Nat) (s : List Int) (st sp md : Int) (q : Option Addr) (d : Nat) (perm : List Int) (r : Option Addr) (f : Nat) (ix : List Int) (w : World) (h : Ints w p s) (h' : Ints w q perm) (h'' : Ints w r ix) (hg : goodB k b e s st sp md = true) (hk : k ≠ 1) (hl : perm.length = s.length) (h16 : ¬ 16 < perm.length) (hx16 : ¬ 16 < ix.length) (hin : insideB 1 [] ix = false) :
    Calls Try.prog 17 #[.agg #[.int .i64 k, .int .i64 b, .int .i64 e, .slice p s.length c, .int .i64 st, .int .i64 sp, .int .i64 md], .slice q perm.length d, .slice r ix.length f] w fun e' w' => e' = .returned (.bool true) ∧ Below w.heap.size w w' := by
  have hsm := h.small
  have hsm' := h'.small
  have hsm'' := h''.small
  have Hin := Lib.hid hin
  clear hin
  have Hg := Lib.hid hg
  clear hg
  have hk1 : (k != 1) = true := by simp [hk]
  have hk1' : (k == 1) = false := by simp [hk]
  have hlb : ((perm.length : Int) != (s.length : Int)) = false := by rw [bne_eq_false_iff_eq]; omega
  clear hk hl
  go_enter Try.func17, Try.ntmps17
  go_wp2_with fail
  refine (awake17 _).mono ?_
  rintro e1 w1 ⟨rfl, hb1⟩
  have A := (At7.new w _ k b e (.slice p s.length c) st sp md 89 rfl).keep hb1
  have hb := below_1 hb1
  clear hb1
  have hA0 := A.c0
  have hA1 := A.c1
  have hA2 := A.c2
  have hA3 := A.c3
  have hA4 := A.c4
  have hA5 := A.c5
  have hA6 := A.c6
  go_wp2_with fail
  refine (good_is k b e p c s st sp md true Hg.out _ (h.keep hb)).mono ?_
  rintro e2 w2 ⟨rfl, hb2⟩
  clear hA0
  clear hA1
  clear hA2
  clear hA3
  clear hA4
  clear hA5
  clear hA6
  have A := A.keep hb2
  have hb := below_t hb hb2
  clear hb2
  have hA0 := A.c0
  have hA3 := A.c3
  have hdp : decide (16 < (perm.length : Int)) = false := by simp; omega
  have hdx : decide (16 < (ix.length : Int)) = false := by simp; omega
  go_wp2_with fail
  clear hA0 hA3
  go_loopw [7, 8] (fun o i wr => ∃ (j : Nat), j ≤ perm.length ∧ i = .int .i64 j ∧ wr.ownsRow w2.heap.size 3 1 o j (((fromS perm ix).take j).map (.int .i64)) ∧ Below w2.heap.size w2 wr ∧ Hid (∀ i, i < j → 0 ≤ nth perm i ∧ nth perm i < (ix.length : Int))) (fun _ i _ => perm.length - (intOf i).toNat)
  case atStart => exact ⟨0, Nat.zero_le _, rfl, by simpa using World.ownsRow_nil _ _ _ _, Below.refl _ _, fun i hi => by omega⟩
  case round =>
    obtain ⟨j, hj, rfl, hown, hbr, hI⟩ := hrel
    have hbs := hbr.size
    have hbw := below_t hb hbr
    by_cases hlt : j < perm.length
    · obtain ⟨b1, o1, rfl, -, hc1⟩ := (h'.keep hbw).at hlt
      obtain ⟨z, hz⟩ : ∃ z, nth perm j = z := ⟨_, rfl⟩
      rw [hz] at hc1
      have hji : (j : Int) < (perm.length : Int) := by omega
      by_cases hz0 : z < 0
      · clear hz hI
        go_wp2
        go_ret
        exact ⟨rfl, hbw⟩
      · by_cases hz1 : (ix.length : Int) ≤ z
        · clear hz hI
          go_wp2
          go_ret
          exact ⟨rfl, hbw⟩
        · obtain ⟨zn, rfl⟩ : ∃ zn : Nat, z = (zn : Int) := ⟨z.toNat, by omega⟩
          have hzn : zn < ix.length := by omega
          obtain ⟨b2, o2, rfl, -, hc2⟩ := (h''.keep hbw).at hzn
          obtain ⟨u, hu⟩ : ∃ u, nth ix zn = u := ⟨_, rfl⟩
          rw [hu] at hc2
          have hfl : j < (fromS perm ix).length := by simp [fromS]; exact hlt
          have Htk := Lib.hid (take_nth hfl)
          have Hn : Hid (nth (fromS perm ix) j = u) := by
            have hg := nth_get? hlt
            rw [hz] at hg
            simp [Hid, fromS, nth, List.getD_eq_getElem?_getD, hg, ← hu]
          have HI : Hid (∀ i, i < j + 1 → 0 ≤ nth perm i ∧ nth perm i < (ix.length : Int)) := by
            intro i hi
            by_cases hij : i = j
            · subst hij
              rw [hz]
              exact ⟨by omega, by omega⟩
            · exact hI.out i (by omega)
          have hlf : (fromS perm ix).length ≤ 1000 := by simp [fromS]; omega
          have hd0 : decide ((zn : Int) < 0) = false := by simp
          have hd1 : decide ((ix.length : Int) ≤ (zn : Int)) = false := by simp; omega
          clear hz hI hu
          go_wp2_with (at_builtin; refine append_ints rfl _ _ rfl w2.heap.size _ j _ rfl (hown.alloc _) (some ⟨wr.heap.size, 0, none⟩) 1 [u] rfl (cells_one _ _ _ _ rfl) (by simp; omega) (by simp; omega) ?_; intro v' w3 hown1 hg1)
          have hb1 := below_append hbr hown hg1
          go_roundw
          case rel => exact ⟨j + 1, by omega, by go_num, by rw [Htk.out, Hn.out, List.map_append]; exact hown1, hb1, HI.out⟩
          case measure => simp [intOf]; omega
    · obtain ⟨pf, cf, rfl, hnew⟩ := row_new hown
      rw [List.take_of_length_le (by simp [fromS]; omega)] at hnew
      have hlm : (((fromS perm ix).take j).map (Value.int .i64)).length = perm.length := by simp [fromS]; omega
      have A1 := A.keep hbr
      have hb := hbw
      have Hall := hI
      have Hnew := Lib.hid hnew
      have Hlm := Lib.hid hlm
      clear hown hnew hI hlm A
      have A := A1
      clear A1
      go_wp2_with fail
      refine (Inside_is 1 0 0 none 0 [] 0 0 0 r f ix false Hin.out _ (Ints.nil _) (h''.keep hb)).mono ?_
      rintro e3 w3 ⟨rfl, hb3⟩
      go_wp2_with fail
      go_ret
      exact ⟨rfl, below_t hb hb3⟩

set_option maxRecDepth 100000 in
set_option maxHeartbeats 8000000 in
theorem Turns_main (k b e : Int) (p : Option Addr) (c : Nat) (s : List Int) (st sp md : Int) (q : Option Addr) (d : Nat) (perm : List Int) (r : Option Addr) (f : Nat) (ix : List Int) (w : World) (h : Ints w p s) (h' : Ints w q perm) (h'' : Ints w r ix) (hg : goodB k b e s st sp md = true) (hk : k ≠ 1) (hl : perm.length = s.length) (h16 : ¬ 16 < perm.length) (hx16 : ¬ 16 < ix.length) (hin : insideB 1 [] ix = true) (Y : List Int) (n : Int)
    (HP : Hid (∀ W, Ints W p s → Ints W q perm → (∀ x ∈ perm, 0 ≤ x ∧ x < (ix.length : Int)) → Calls Try.prog 72 #[.agg #[.int .i64 k, .int .i64 b, .int .i64 e, .slice p s.length c, .int .i64 st, .int .i64 sp, .int .i64 md], .slice q perm.length d, .int .i64 ix.length] W (MovedTo W k b e Y st sp md)))
    (HRP : Hid (∀ W, Ints W p s → Ints W q perm → Calls Try.prog 73 #[.agg #[.int .i64 k, .int .i64 b, .int .i64 e, .slice p s.length c, .int .i64 st, .int .i64 sp, .int .i64 md], .slice q perm.length d, .int .i64 ix.length] W (MovedTo W k b e Y st sp md)))
    (HA : Hid (∀ W pp cp, Ints W pp Y → Ints W r ix → (∀ x ∈ perm, 0 ≤ x ∧ x < (ix.length : Int)) → Calls Try.prog 67 #[.agg #[.int .i64 k, .int .i64 b, .int .i64 e, .slice pp Y.length cp, .int .i64 st, .int .i64 sp, .int .i64 md], .slice r ix.length f] W fun e' w' => e' = .returned (.tuple #[.int .i64 n, .bool true]) ∧ Below W.heap.size W w'))
    (HB : Hid (∀ W pf cf, Ints W p s → Ints W pf (fromS perm ix) → Calls Try.prog 68 #[.agg #[.int .i64 k, .int .i64 b, .int .i64 e, .slice p s.length c, .int .i64 st, .int .i64 sp, .int .i64 md], .slice pf perm.length cf] W fun e' w' => e' = .returned (.tuple #[.int .i64 n, .bool true]) ∧ Below W.heap.size W w')) :
    Calls Try.prog 17 #[.agg #[.int .i64 k, .int .i64 b, .int .i64 e, .slice p s.length c, .int .i64 st, .int .i64 sp, .int .i64 md], .slice q perm.length d, .slice r ix.length f] w fun e' w' => e' = .returned (.bool true) ∧ Below w.heap.size w w' := by
  have hsm := h.small
  have hsm' := h'.small
  have hsm'' := h''.small
  have Hin := Lib.hid hin
  clear hin
  have hnn : (n == n) = true := by simp
  have Hg := Lib.hid hg
  clear hg
  have hk1 : (k != 1) = true := by simp [hk]
  have hk1' : (k == 1) = false := by simp [hk]
  have hlb : ((perm.length : Int) != (s.length : Int)) = false := by rw [bne_eq_false_iff_eq]; omega
  clear hk hl
  go_enter Try.func17, Try.ntmps17
  go_wp2_with fail
  refine (awake17 _).mono ?_
  rintro e1 w1 ⟨rfl, hb1⟩
  have A := (At7.new w _ k b e (.slice p s.length c) st sp md 89 rfl).keep hb1
  have hb := below_1 hb1
  clear hb1
  have hA0 := A.c0
  have hA1 := A.c1
  have hA2 := A.c2
  have hA3 := A.c3
  have hA4 := A.c4
  have hA5 := A.c5
  have hA6 := A.c6
  go_wp2_with fail
  refine (good_is k b e p c s st sp md true Hg.out _ (h.keep hb)).mono ?_
  rintro e2 w2 ⟨rfl, hb2⟩
  clear hA0
  clear hA1
  clear hA2
  clear hA3
  clear hA4
  clear hA5
  clear hA6
  have A := A.keep hb2
  have hb := below_t hb hb2
  clear hb2
  have hA0 := A.c0
  have hA3 := A.c3
  have hdp : decide (16 < (perm.length : Int)) = false := by simp; omega
  have hdx : decide (16 < (ix.length : Int)) = false := by simp; omega
  go_wp2_with fail
  clear hA0 hA3
  go_loopw [7, 8] (fun o i wr => ∃ (j : Nat), j ≤ perm.length ∧ i = .int .i64 j ∧ wr.ownsRow w2.heap.size 3 1 o j (((fromS perm ix).take j).map (.int .i64)) ∧ Below w2.heap.size w2 wr ∧ Hid (∀ i, i < j → 0 ≤ nth perm i ∧ nth perm i < (ix.length : Int))) (fun _ i _ => perm.length - (intOf i).toNat)
  case atStart => exact ⟨0, Nat.zero_le _, rfl, by simpa using World.ownsRow_nil _ _ _ _, Below.refl _ _, fun i hi => by omega⟩
  case round =>
    obtain ⟨j, hj, rfl, hown, hbr, hI⟩ := hrel
    have hbs := hbr.size
    have hbw := below_t hb hbr
    by_cases hlt : j < perm.length
    · obtain ⟨b1, o1, rfl, -, hc1⟩ := (h'.keep hbw).at hlt
      obtain ⟨z, hz⟩ : ∃ z, nth perm j = z := ⟨_, rfl⟩
      rw [hz] at hc1
      have hji : (j : Int) < (perm.length : Int) := by omega
      by_cases hz0 : z < 0
      · clear hz hI
        go_wp2
        go_ret
        exact ⟨rfl, hbw⟩
      · by_cases hz1 : (ix.length : Int) ≤ z
        · clear hz hI
          go_wp2
          go_ret
          exact ⟨rfl, hbw⟩
        · obtain ⟨zn, rfl⟩ : ∃ zn : Nat, z = (zn : Int) := ⟨z.toNat, by omega⟩
          have hzn : zn < ix.length := by omega
          obtain ⟨b2, o2, rfl, -, hc2⟩ := (h''.keep hbw).at hzn
          obtain ⟨u, hu⟩ : ∃ u, nth ix zn = u := ⟨_, rfl⟩
          rw [hu] at hc2
          have hfl : j < (fromS perm ix).length := by simp [fromS]; exact hlt
          have Htk := Lib.hid (take_nth hfl)
          have Hn : Hid (nth (fromS perm ix) j = u) := by
            have hg := nth_get? hlt
            rw [hz] at hg
            simp [Hid, fromS, nth, List.getD_eq_getElem?_getD, hg, ← hu]
          have HI : Hid (∀ i, i < j + 1 → 0 ≤ nth perm i ∧ nth perm i < (ix.length : Int)) := by
            intro i hi
            by_cases hij : i = j
            · subst hij
              rw [hz]
              exact ⟨by omega, by omega⟩
            · exact hI.out i (by omega)
          have hlf : (fromS perm ix).length ≤ 1000 := by simp [fromS]; omega
          have hd0 : decide ((zn : Int) < 0) = false := by simp
          have hd1 : decide ((ix.length : Int) ≤ (zn : Int)) = false := by simp; omega
          clear hz hI hu
          go_wp2_with (at_builtin; refine append_ints rfl _ _ rfl w2.heap.size _ j _ rfl (hown.alloc _) (some ⟨wr.heap.size, 0, none⟩) 1 [u] rfl (cells_one _ _ _ _ rfl) (by simp; omega) (by simp; omega) ?_; intro v' w3 hown1 hg1)
          have hb1 := below_append hbr hown hg1
          go_roundw
          case rel => exact ⟨j + 1, by omega, by go_num, by rw [Htk.out, Hn.out, List.map_append]; exact hown1, hb1, HI.out⟩
          case measure => simp [intOf]; omega
    · obtain ⟨pf, cf, rfl, hnew⟩ := row_new hown
      rw [List.take_of_length_le (by simp [fromS]; omega)] at hnew
      have hlm : (((fromS perm ix).take j).map (Value.int .i64)).length = perm.length := by simp [fromS]; omega
      have A1 := A.keep hbr
      have hb := hbw
      have Hall := hI
      have Hnew := Lib.hid hnew
      have Hlm := Lib.hid hlm
      clear hown hnew hI hlm A
      have A := A1
      clear A1
      have hpall : Hid (∀ x ∈ perm, 0 ≤ x ∧ x < (ix.length : Int)) := by
        intro x hx
        obtain ⟨i, hi, rfl⟩ := mem_nth hx
        exact Hall.out i (by omega)
      have hfi : Ints wr pf (fromS perm ix) := by
        refine Hnew.out.ints (fun y hy => ?_) (by simp [fromS]; omega)
        obtain ⟨z, hz, rfl⟩ := List.mem_map.1 hy
        have := hpall.out z hz
        exact h''.i64 _ (nth_mem (by omega))
      clear Hnew Hall
      rw [Hlm.out]
      go_wp2_with fail
      refine (Inside_is 1 0 0 none 0 [] 0 0 0 r f ix true Hin.out _ (Ints.nil _) (h''.keep hb)).mono ?_
      rintro e3 w3 ⟨rfl, hb3⟩
      have A := A.keep hb3
      have hfi := hfi.keep hb3
      have hb := below_t hb hb3
      clear hb3
      have hA0 := A.c0
      have hA1 := A.c1
      have hA2 := A.c2
      have hA3 := A.c3
      have hA4 := A.c4
      have hA5 := A.c5
      have hA6 := A.c6
      go_wp2_with fail
      clear hA0
      clear hA1
      clear hA2
      clear hA3
      clear hA4
      clear hA5
      clear hA6
      refine (HP.out _ (h.keep hb) (h'.keep hb) hpall.out).mono ?_
      rintro e4 w4 ⟨⟨pp, cp, rfl, hpi⟩, hb4⟩
      have hba := below_alloc w4 (.cells #[.int .i64 k, .int .i64 b, .int .i64 e, .slice pp Y.length cp, .int .i64 st, .int .i64 sp, .int .i64 md] 93)
      have D := At7.new w4 _ k b e (.slice pp Y.length cp) st sp md 93 rfl
      have hb4 := below_t hb4 hba
      have hpi := hpi.keep hba
      clear hba
      have A := A.keep hb4
      have hfi := hfi.keep hb4
      have hb := below_t hb hb4
      clear hb4
      have hA0 := A.c0
      have hA1 := A.c1
      have hA2 := A.c2
      have hA3 := A.c3
      have hA4 := A.c4
      have hA5 := A.c5
      have hA6 := A.c6
      have hD0 := D.c0
      have hD1 := D.c1
      have hD2 := D.c2
      have hD3 := D.c3
      have hD4 := D.c4
      have hD5 := D.c5
      have hD6 := D.c6
      go_wp2_with fail
      clear hA0
      clear hA1
      clear hA2
      clear hA3
      clear hA4
      clear hA5
      clear hA6
      clear hD0
      clear hD1
      clear hD2
      clear hD3
      clear hD4
      clear hD5
      clear hD6
      refine (HA.out _ pp cp hpi (h''.keep hb) hpall.out).mono ?_
      rintro e5 w5 ⟨rfl, hb5⟩
      have A := A.keep hb5
      have D := D.keep hb5
      have hfi := hfi.keep hb5
      have hpi := hpi.keep hb5
      have hb := below_t hb hb5
      clear hb5
      have hA0 := A.c0
      have hA1 := A.c1
      have hA2 := A.c2
      have hA3 := A.c3
      have hA4 := A.c4
      have hA5 := A.c5
      have hA6 := A.c6
      go_wp2_with fail
      clear hA0
      clear hA1
      clear hA2
      clear hA3
      clear hA4
      clear hA5
      clear hA6
      refine (HB.out _ pf cf (h.keep hb) hfi).mono ?_
      rintro e6 w6 ⟨rfl, hb6⟩
      have A := A.keep hb6
      have D := D.keep hb6
      have hpi := hpi.keep hb6
      have hb := below_t hb hb6
      clear hb6
      go_wp2_with fail
      have hKS : Keeps (fun w' => (w.heap.size < w'.heap.size ∧ w'.cell? ⟨w.heap.size, 0, none⟩ = some (.int .i64 k) ∧ w'.cell? ⟨w.heap.size, 1, none⟩ = some (.int .i64 b) ∧ w'.cell? ⟨w.heap.size, 2, none⟩ = some (.int .i64 e) ∧ w'.cell? ⟨w.heap.size, 3, none⟩ = some (.slice p s.length c) ∧ w'.cell? ⟨w.heap.size, 4, none⟩ = some (.int .i64 st) ∧ w'.cell? ⟨w.heap.size, 5, none⟩ = some (.int .i64 sp) ∧ w'.cell? ⟨w.heap.size, 6, none⟩ = some (.int .i64 md)) ∧ (w4.heap.size < w'.heap.size ∧ w'.cell? ⟨w4.heap.size, 0, none⟩ = some (.int .i64 k) ∧ w'.cell? ⟨w4.heap.size, 1, none⟩ = some (.int .i64 b) ∧ w'.cell? ⟨w4.heap.size, 2, none⟩ = some (.int .i64 e) ∧ w'.cell? ⟨w4.heap.size, 3, none⟩ = some (.slice pp Y.length cp) ∧ w'.cell? ⟨w4.heap.size, 4, none⟩ = some (.int .i64 st) ∧ w'.cell? ⟨w4.heap.size, 5, none⟩ = some (.int .i64 sp) ∧ w'.cell? ⟨w4.heap.size, 6, none⟩ = some (.int .i64 md)) ∧ Ints w' p s ∧ Ints w' q perm ∧ Ints w' pp Y ∧ Below w.heap.size w w') := (keeps_at7 _ _ _ _ _ _ _ _).and ((keeps_at7 _ _ _ _ _ _ _ _).and ((keeps_ints _ _).and ((keeps_ints _ _).and ((keeps_ints _ _).and (keeps_below _)))))
      have hS := hKS w6 _ ⟨⟨A.lt, A.c0, A.c1, A.c2, A.c3, A.c4, A.c5, A.c6⟩, ⟨D.lt, D.c0, D.c1, D.c2, D.c3, D.c4, D.c5, D.c6⟩, h.keep hb, h'.keep hb, hpi, hb⟩ (Below.refl _ _)
      clear A D hpi hfi hb
      refine wp_region_noPanic ?_
      refine wp_region_held_drew (S := (fun w' => (w.heap.size < w'.heap.size ∧ w'.cell? ⟨w.heap.size, 0, none⟩ = some (.int .i64 k) ∧ w'.cell? ⟨w.heap.size, 1, none⟩ = some (.int .i64 b) ∧ w'.cell? ⟨w.heap.size, 2, none⟩ = some (.int .i64 e) ∧ w'.cell? ⟨w.heap.size, 3, none⟩ = some (.slice p s.length c) ∧ w'.cell? ⟨w.heap.size, 4, none⟩ = some (.int .i64 st) ∧ w'.cell? ⟨w.heap.size, 5, none⟩ = some (.int .i64 sp) ∧ w'.cell? ⟨w.heap.size, 6, none⟩ = some (.int .i64 md)) ∧ (w4.heap.size < w'.heap.size ∧ w'.cell? ⟨w4.heap.size, 0, none⟩ = some (.int .i64 k) ∧ w'.cell? ⟨w4.heap.size, 1, none⟩ = some (.int .i64 b) ∧ w'.cell? ⟨w4.heap.size, 2, none⟩ = some (.int .i64 e) ∧ w'.cell? ⟨w4.heap.size, 3, none⟩ = some (.slice pp Y.length cp) ∧ w'.cell? ⟨w4.heap.size, 4, none⟩ = some (.int .i64 st) ∧ w'.cell? ⟨w4.heap.size, 5, none⟩ = some (.int .i64 sp) ∧ w'.cell? ⟨w4.heap.size, 6, none⟩ = some (.int .i64 md)) ∧ Ints w' p s ∧ Ints w' q perm ∧ Ints w' pp Y ∧ Below w.heap.size w w')) (by kernel_rfl) ?_ (fun hHeld => ?_)
      · (try dsimp only); exact hKS _ _ (by first | exact hHeld | exact hS) (by first | assumption | (go_grown; done) | (refine from_drew ?_; go_grown; done))
      refine takeH 0 (some 102) (v := ?_) rfl rfl (by kernel_rfl) (by kernel_rfl) (by kernel_rfl) (by rfl) ?_ (by exact hHeld) ?_
      rotate_left
      · intro w hSw; (try dsimp only at hSw); go_simp; try (with_reducible rfl)
      try simp only [Act.put, List.setIfInBounds_toArray, List.set_cons_zero, List.set_cons_succ]
      refine takeH 1 (some 103) (v := ?_) rfl rfl (by kernel_rfl) (by kernel_rfl) (by kernel_rfl) (by rfl) ?_ (by exact hHeld) ?_
      rotate_left
      · intro w hSw; (try dsimp only at hSw); go_simp; try (with_reducible rfl)
      try simp only [Act.put, List.setIfInBounds_toArray, List.set_cons_zero, List.set_cons_succ]
      refine takeH 2 (some 104) (v := ?_) rfl rfl (by kernel_rfl) (by kernel_rfl) (by kernel_rfl) (by rfl) ?_ (by exact hHeld) ?_
      rotate_left
      · intro w hSw; (try dsimp only at hSw); go_simp; try (with_reducible rfl)
      try simp only [Act.put, List.setIfInBounds_toArray, List.set_cons_zero, List.set_cons_succ]
      refine takeH 3 (some 105) (v := ?_) rfl rfl (by kernel_rfl) (by kernel_rfl) (by kernel_rfl) (by rfl) ?_ (by exact hHeld) ?_
      rotate_left
      · intro w hSw; (try dsimp only at hSw); go_simp; try (with_reducible rfl)
      try simp only [Act.put, List.setIfInBounds_toArray, List.set_cons_zero, List.set_cons_succ]
      refine takeH 4 (some 106) (v := ?_) rfl rfl (by kernel_rfl) (by kernel_rfl) (by kernel_rfl) (by rfl) ?_ (by exact hHeld) ?_
      rotate_left
      · intro w hSw; (try dsimp only at hSw); go_simp; try (with_reducible rfl)
      try simp only [Act.put, List.setIfInBounds_toArray, List.set_cons_zero, List.set_cons_succ]
      refine wpAnyH_ready (rs := [5]) (by kernel_rfl) (by simp) ?_
      refine stepH 5 rfl (by rfl) (fun K hK => ?_) ?_
      · go_simp
        ((with_reducible refine (HRP.out _ ?_ ?_).mono ?_); (go_split_ands; assumption); (go_split_ands; assumption); rintro e7 w7 ⟨⟨pr, cr, rfl, hir⟩, hb7⟩)
        refine hK.out _ _ ?_ (fun hNew => ?_)
        · (try dsimp only); exact hKS _ _ (by first | exact hHeld | exact hS) (by first | assumption | (go_grown; done) | (refine from_drew ?_; go_grown; done))
        clear hK K hHeld
        have hHeld := hNew
        clear hNew
        try dsimp only at hHeld
        try simp only [Act.put, List.setIfInBounds_toArray, List.set_cons_zero, List.set_cons_succ]
        refine wpAnyH_ready (rs := [6]) (by kernel_rfl) (by simp) ?_
        refine stepH 6 rfl (by rfl) (fun K hK => ?_) ?_
        · go_simp
          ((with_reducible refine (RSame_yes k b e pp cp Y st sp md pr cr _ ?_ ?_).mono ?_); (go_split_ands; assumption); (exact hir); rintro e8 w8 ⟨rfl, hb8⟩)
          refine hK.out _ _ ?_ (fun hNew => ?_)
          · (try dsimp only); exact hKS _ _ (by first | exact hHeld | exact hS) (by first | assumption | (go_grown; done) | (refine from_drew ?_; go_grown; done))
          clear hK K hHeld
          have hHeld := hNew
          clear hNew
          try dsimp only at hHeld
          try simp only [Act.put, List.setIfInBounds_toArray, List.set_cons_zero, List.set_cons_succ]
          refine takeH 7 (some 109) (v := ?_) rfl rfl (by kernel_rfl) (by kernel_rfl) (by kernel_rfl) (by rfl) ?_ (by exact hHeld) ?_
          rotate_left
          · intro w hSw; (try dsimp only at hSw); go_simp; try (with_reducible rfl)
          try simp only [Act.put, List.setIfInBounds_toArray, List.set_cons_zero, List.set_cons_succ]
          refine takeH 8 (some 110) (v := ?_) rfl rfl (by kernel_rfl) (by kernel_rfl) (by kernel_rfl) (by rfl) ?_ (by exact hHeld) ?_
          rotate_left
          · intro w hSw; (try dsimp only at hSw); go_simp; try (with_reducible rfl)
          try simp only [Act.put, List.setIfInBounds_toArray, List.set_cons_zero, List.set_cons_succ]
          refine takeH 9 (some 111) (v := ?_) rfl rfl (by kernel_rfl) (by kernel_rfl) (by kernel_rfl) (by rfl) ?_ (by exact hHeld) ?_
          rotate_left
          · intro w hSw; (try dsimp only at hSw); go_simp; try (with_reducible rfl)
          try simp only [Act.put, List.setIfInBounds_toArray, List.set_cons_zero, List.set_cons_succ]
          refine takeH 10 (some 112) (v := ?_) rfl rfl (by kernel_rfl) (by kernel_rfl) (by kernel_rfl) (by rfl) ?_ (by exact hHeld) ?_
          rotate_left
          · intro w hSw; (try dsimp only at hSw); go_simp; try (with_reducible rfl)
          try simp only [Act.put, List.setIfInBounds_toArray, List.set_cons_zero, List.set_cons_succ]
          refine takeH 11 (some 113) (v := ?_) rfl rfl (by kernel_rfl) (by kernel_rfl) (by kernel_rfl) (by rfl) ?_ (by exact hHeld) ?_
          rotate_left
          · intro w hSw; (try dsimp only at hSw); go_simp; try (with_reducible rfl)
          try simp only [Act.put, List.setIfInBounds_toArray, List.set_cons_zero, List.set_cons_succ]
          refine takeH 12 (some 114) (v := ?_) rfl rfl (by kernel_rfl) (by kernel_rfl) (by kernel_rfl) (by rfl) ?_ (by exact hHeld) ?_
          rotate_left
          · intro w hSw; (try dsimp only at hSw); go_simp; try (with_reducible rfl)
          try simp only [Act.put, List.setIfInBounds_toArray, List.set_cons_zero, List.set_cons_succ]
          refine takeH 13 (some 115) (v := ?_) rfl rfl (by kernel_rfl) (by kernel_rfl) (by kernel_rfl) (by rfl) ?_ (by exact hHeld) ?_
          rotate_left
          · intro w hSw; (try dsimp only at hSw); go_simp; try (with_reducible rfl)
          try simp only [Act.put, List.setIfInBounds_toArray, List.set_cons_zero, List.set_cons_succ]
          refine takeH 14 (some 116) (v := ?_) rfl rfl (by kernel_rfl) (by kernel_rfl) (by kernel_rfl) (by rfl) ?_ (by exact hHeld) ?_
          rotate_left
          · intro w hSw; (try dsimp only at hSw); go_simp; try (with_reducible rfl)
          try simp only [Act.put, List.setIfInBounds_toArray, List.set_cons_zero, List.set_cons_succ]
          refine takeH 15 (some 6) (v := ?_) rfl rfl (by kernel_rfl) (by kernel_rfl) (by kernel_rfl) (by rfl) ?_ (by exact hHeld) ?_
          rotate_left
          · intro w hSw; (try dsimp only at hSw); go_simp; try (with_reducible rfl)
          try simp only [Act.put, List.setIfInBounds_toArray, List.set_cons_zero, List.set_cons_succ]
          refine wpAnyH_done (by kernel_rfl) ?_ _
          refine NoPanic.normal ?_
          obtain ⟨-, -, -, -, -, hbw2⟩ := hHeld
          go_wp2_with fail
          go_ret
          exact ⟨rfl, hbw2⟩
        exact AllReadyH.nil
      exact AllReadyH.nil
end Go.Proofs.Ythkfjdhakbjllaa
