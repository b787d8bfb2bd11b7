/- spec.converted at a function value that keeps a state below its own rows; spec.Exactly, spec.One, slices.Max. No condition beyond what each says. -/
import Derived.Test.YtolkgjbljdmadaaSpec1
namespace Go.Proofs.Ytolkgjbljdmadaa
open Go.RowKit Go.Shelf
set_option linter.unusedVariables false
set_option linter.unusedSimpArgs false

theorem append_chg {w wr w1 : World} {v : Value} {o : Obj} {e : TypeId} {n : Nat} {xs : List Value} {S : Nat → Prop} (hc : Chg S w wr) (hown : wr.ownsRow w.heap.size e 1 v n xs) (hg : (wr.alloc o).grownBy w1 v.ownBlock) : Chg S w w1 := by
  have hs := hg.size
  have hsz : (wr.alloc o).heap.size = wr.heap.size + 1 := by simp
  refine ⟨?_, ?_, ?_, ?_, ?_⟩
  · rw [hg.os]; exact hc.os
  · rw [hg.tape]; exact hc.tape
  · rw [hg.output]; exact hc.output
  · have := hc.size; omega
  · intro k hk hn
    have hk' : k < wr.heap.size := Nat.lt_of_lt_of_le hk hc.size
    rw [hg.block k (by omega) (fun e => by have := (hown.lt k e.symm).1; omega), Below.heap_alloc _ _ _ hk']
    exact hc.block k hk hn

theorem nth_mapf (f : Int → Int) {xs : List Int} {k : Nat} (hk : k < xs.length) : nth (xs.map f) k = f (nth xs k) := by
  have h1 := nth_get? hk
  have h2 : (xs.map f)[k]? = some (f (nth xs k)) := by rw [List.getElem?_map, h1]; rfl
  unfold nth at h2 ⊢
  rw [List.getD_eq_getElem?_getD, h2]
  rfl

/-- a function value that gives G x at each x of a list, whose state Inv lies below D, in block row -/
def Conv (gf : Nat) (first lb : Array Value) (row : Option Nat) (D : Nat) (Inv : Nat → World → Prop) (G : Int → Int × Int) (vs : List Int) : Prop :=
  (∀ k W W', Inv k W → (∀ j, j < D → W'.heap[j]? = W.heap[j]?) → Inv k W') ∧
  ∀ k W, k < vs.length → D ≤ W.heap.size → Inv k W →
    Calls Try.prog gf (first.push (.int .i64 (nth vs k)) ++ lb) W fun e W' => e = .returned (.tuple #[.int .i64 (G (nth vs k)).1, .int .i64 (G (nth vs k)).2]) ∧ ((G (nth vs k)).2 = 0 → Inv (k + 1) W') ∧ Chg (fun j => some j = row) W W'

set_option maxHeartbeats 1000000 in
/-- where no number has an error -/
theorem converted_yes (gf : Nat) (first lb : Array Value) (row : Option Nat) (Inv : Nat → World → Prop) (G : Int → Int × Int) (vs : List Int) (eg : ∀ args w, (callFunc gf args).run Try.prog w = .ok (.enter gf args) w)
    (p : Option Addr) (c : Nat) (w : World) (h : Ints w p vs) (hl : vs.length ≤ 1000000) (hG : Conv gf first lb row w.heap.size Inv G vs) (hI : Inv 0 w) (hrow : ∀ k, some k = row → k < w.heap.size)
    (hpr : vs = [] ∨ ∀ x y, p = some ⟨x, y, none⟩ → ¬ some x = row) (hall : ∀ x ∈ vs, (G x).2 = 0) :
    Calls Try.prog 41 #[.slice p vs.length c, .func (.func gf) first lb] w fun e w' =>
      (∃ q c', e = .returned (.tuple #[.slice q vs.length c', .int .i64 0]) ∧ New w.heap.size w' q 3 ((vs.map fun x => (G x).1).map (.int .i64)) ∧ Inv vs.length w') ∧ Chg (fun j => some j = row) w w' := by
  have HG := Lib.hid hG
  have Hrow := Lib.hid hrow
  have Hpr := Lib.hid hpr
  have Hall := Lib.hid hall
  obtain ⟨i0, hi, hz, hsize, hbytes⟩ := info_parts info_int
  clear hG hrow hpr hall
  go_enter Try.func41, Try.ntmps41
  go_wp2_with (at_make; refine wpList_make_own _ rfl _ _ 26 rfl w.heap.size 3 i0 (.int .i64 0) 1 Try.underlying26 hi hz hsize .i64 .i64 _ vs.length rfl rfl rfl (by rw [hbytes]; omega) (by unfold maxLen; omega) (Nat.le_refl _) ?_; intro w1 hown1 hg1)
  have hb1 := below_grown hg1
  go_loopw [6, 16] (fun o i wr => ∃ (k : Nat), k ≤ vs.length ∧ i = .int .i64 k ∧ wr.ownsRow w.heap.size 3 1 o k (((vs.map fun x => (G x).1).take k).map (.int .i64)) ∧ Chg (fun j => some j = row) w wr ∧ Inv k wr) (fun _ i _ => vs.length - (intOf i).toNat)
  case atStart => exact ⟨0, Nat.zero_le _, rfl, by simpa using hown1, Chg.of_below hb1, HG.out.1 _ _ _ hI fun j hj => hb1.block j hj⟩
  case round =>
    obtain ⟨k, hk, rfl, hown, hch, hIk⟩ := hrel
    have hsz := hch.size
    by_cases hlt : k < vs.length
    · have hk' := h.chg' hch Hpr.out
      obtain ⟨b1, o1, rfl, -, hc1⟩ := hk'.at hlt
      have hki : (k : Int) < (vs.length : Int) := by omega
      have Hc := Lib.hid (HG.out.2 k wr hlt hsz hIk)
      have h0 := Hall.out _ (nth_mem hlt)
      have hxl : k < (vs.map fun x => (G x).1).length := by simp; exact hlt
      have Htk := Lib.hid (take_nth hxl)
      have Hn := Lib.hid (nth_mapf (fun x => (G x).1) hlt)
      obtain ⟨y, hy⟩ : ∃ y, (G (nth vs k)).1 = y := ⟨_, rfl⟩
      obtain ⟨x, hx⟩ : ∃ x, nth vs k = x := ⟨_, rfl⟩
      rw [hx] at hc1 h0 Hc hy Hn
      rw [hy, h0] at Hc
      rw [hy] at Hn
      clear hx hy hIk
      go_wp2_with fail
      refine (Hc.out).mono ?_
      rintro e2 w2 ⟨rfl, hI2, hch2⟩
      have hown2 := ownsRow_chg hown hch2 (fun j hj => Hrow.out j hj)
      have hc2 := hch.trans hch2
      go_wp2_with (at_builtin; refine append_ints rfl _ _ rfl w.heap.size _ k _ rfl (hown2.alloc _) (some ⟨w2.heap.size, 0, none⟩) 1 [y] rfl (cells_one _ _ _ _ rfl) (by simp; omega) (by have := hc2.size; simp; omega) ?_; intro v' w3 hown3 hg3)
      have hc3 := append_chg hc2 hown2 hg3
      have hI3 := HG.out.1 _ _ w3 (hI2 trivial) (fun j hj => by
        have hj' : j < w2.heap.size := Nat.lt_of_lt_of_le hj hc2.size
        rw [hg3.block j (by simp; omega) (fun e => by have := (hown2.lt j e.symm).1; omega), Below.heap_alloc _ _ _ hj'])
      go_roundw
      case rel => exact ⟨k + 1, by omega, by go_num, by rw [Htk.out, Hn.out, List.map_append]; exact hown3, hc3, hI3⟩
      case measure => simp [intOf]; omega
    · have : k = vs.length := by omega
      subst this
      obtain ⟨q, cq, rfl, hnew⟩ := row_new hown
      rw [List.take_of_length_le (by simp)] at hnew ⊢
      have hlm : ((vs.map fun x => (G x).1).map (Value.int .i64)).length = vs.length := by simp
      rw [hlm]
      go_wp2_with fail
      go_ret2
      exact ⟨⟨q, cq, rfl, hnew, hIk⟩, hch⟩
set_option maxHeartbeats 1000000 in
/-- where number m is the first that has an error -/
theorem converted_no (gf : Nat) (first lb : Array Value) (row : Option Nat) (Inv : Nat → World → Prop) (G : Int → Int × Int) (vs : List Int) (eg : ∀ args w, (callFunc gf args).run Try.prog w = .ok (.enter gf args) w)
    (p : Option Addr) (c : Nat) (w : World) (h : Ints w p vs) (hl : vs.length ≤ 1000000) (hG : Conv gf first lb row w.heap.size Inv G vs) (hI : Inv 0 w) (hrow : ∀ k, some k = row → k < w.heap.size)
    (hpr : vs = [] ∨ ∀ x y, p = some ⟨x, y, none⟩ → ¬ some x = row) (m : Nat) (hm : m < vs.length) (hall : ∀ j, j < m → (G (nth vs j)).2 = 0) (e : Int) (he : (G (nth vs m)).2 = e) (he0 : e ≠ 0) :
    Calls Try.prog 41 #[.slice p vs.length c, .func (.func gf) first lb] w fun e' w' =>
      e' = .returned (.tuple #[.slice none 0 0, .int .i64 e]) ∧ Chg (fun j => some j = row) w w' := by
  have HG := Lib.hid hG
  have Hrow := Lib.hid hrow
  have Hpr := Lib.hid hpr
  have Hall := Lib.hid hall
  have He := Lib.hid he
  have heb : (e != 0) = true := by simp [he0]
  obtain ⟨i0, hi, hz, hsize, hbytes⟩ := info_parts info_int
  clear hG hrow hpr hall he he0
  go_enter Try.func41, Try.ntmps41
  go_wp2_with (at_make; refine wpList_make_own _ rfl _ _ 26 rfl w.heap.size 3 i0 (.int .i64 0) 1 Try.underlying26 hi hz hsize .i64 .i64 _ vs.length rfl rfl rfl (by rw [hbytes]; omega) (by unfold maxLen; omega) (Nat.le_refl _) ?_; intro w1 hown1 hg1)
  have hb1 := below_grown hg1
  go_loopw [6, 16] (fun o i wr => ∃ (k : Nat), k ≤ m ∧ i = .int .i64 k ∧ wr.ownsRow w.heap.size 3 1 o k (((vs.map fun x => (G x).1).take k).map (.int .i64)) ∧ Chg (fun j => some j = row) w wr ∧ Inv k wr) (fun _ i _ => m - (intOf i).toNat)
  case atStart => exact ⟨0, Nat.zero_le _, rfl, by simpa using hown1, Chg.of_below hb1, HG.out.1 _ _ _ hI fun j hj => hb1.block j hj⟩
  case round =>
    obtain ⟨k, hkm, rfl, hown, hch, hIk⟩ := hrel
    have hsz := hch.size
    have hlt : k < vs.length := by omega
    have hk' := h.chg' hch Hpr.out
    obtain ⟨b1, o1, rfl, -, hc1⟩ := hk'.at hlt
    have hki : (k : Int) < (vs.length : Int) := by omega
    have Hc := Lib.hid (HG.out.2 k wr hlt hsz hIk)
    by_cases hkm' : k < m
    · have h0 := Hall.out _ hkm'
      have hxl : k < (vs.map fun x => (G x).1).length := by simp; exact hlt
      have Htk := Lib.hid (take_nth hxl)
      have Hn := Lib.hid (nth_mapf (fun x => (G x).1) hlt)
      obtain ⟨y, hy⟩ : ∃ y, (G (nth vs k)).1 = y := ⟨_, rfl⟩
      obtain ⟨x, hx⟩ : ∃ x, nth vs k = x := ⟨_, rfl⟩
      rw [hx] at hc1 h0 Hc hy Hn
      rw [hy, h0] at Hc
      rw [hy] at Hn
      clear hx hy hIk
      go_wp2_with fail
      refine (Hc.out).mono ?_
      rintro e2 w2 ⟨rfl, hI2, hch2⟩
      have hown2 := ownsRow_chg hown hch2 (fun j hj => Hrow.out j hj)
      have hc2 := hch.trans hch2
      go_wp2_with (at_builtin; refine append_ints rfl _ _ rfl w.heap.size _ k _ rfl (hown2.alloc _) (some ⟨w2.heap.size, 0, none⟩) 1 [y] rfl (cells_one _ _ _ _ rfl) (by simp; omega) (by have := hc2.size; simp; omega) ?_; intro v' w3 hown3 hg3)
      have hc3 := append_chg hc2 hown2 hg3
      have hI3 := HG.out.1 _ _ w3 (hI2 trivial) (fun j hj => by
        have hj' : j < w2.heap.size := Nat.lt_of_lt_of_le hj hc2.size
        rw [hg3.block j (by simp; omega) (fun e => by have := (hown2.lt j e.symm).1; omega), Below.heap_alloc _ _ _ hj'])
      go_roundw
      case rel => exact ⟨k + 1, by omega, by go_num, by rw [Htk.out, Hn.out, List.map_append]; exact hown3, hc3, hI3⟩
      case measure => simp [intOf]; omega
    · have hk2 : k = m := by omega
      subst hk2
      have h0 := He.out
      obtain ⟨y, hy⟩ : ∃ y, (G (nth vs k)).1 = y := ⟨_, rfl⟩
      obtain ⟨x, hx⟩ : ∃ x, nth vs k = x := ⟨_, rfl⟩
      rw [hx] at hc1 h0 Hc hy
      rw [hy, h0] at Hc
      clear hx hy hIk
      go_wp2_with fail
      refine (Hc.out).mono ?_
      rintro e2 w2 ⟨rfl, -, hch2⟩
      go_wp2_with fail
      go_ret2
      exact ⟨rfl, hch.trans hch2⟩

theorem Exactly_yes (p : Option Addr) (c : Nat) (vs : List Int) (sc : Bool) (w : World) (h : Ints w p vs) (hl : vs.length ≤ 1000000) :
    Calls Try.prog 18 #[.agg #[.slice p vs.length c, .bool sc], .int .i64 vs.length] w fun e w' =>
      (∃ q c', e = .returned (.tuple #[.slice q vs.length c', .int .i64 0]) ∧ New w.heap.size w' q 2 (vs.map (.int .i64))) ∧ Below w.heap.size w w' := by
  have hnn : ((vs.length : Int) != (vs.length : Int)) = false := by simp
  go_enter Try.func18, Try.ntmps18
  go_wp2_with fail
  refine (Clone64_any p c vs _ (h.keep (below_alloc _ _)) hl).mono ?_
  rintro e1 w1 ⟨⟨q, c', rfl, hnew⟩, hb1⟩
  go_wp2_with fail
  go_ret2
  exact ⟨⟨q, c', rfl, hnew.mono (by simp)⟩, below_1 hb1⟩

theorem Exactly_no (p : Option Addr) (c : Nat) (vs : List Int) (sc : Bool) (n : Int) (w : World) (hn : (vs.length : Int) ≠ n) :
    Calls Try.prog 18 #[.agg #[.slice p vs.length c, .bool sc], .int .i64 n] w fun e w' =>
      e = .returned (.tuple #[.slice none 0 0, .int .i64 5]) ∧ Below w.heap.size w w' := by
  have hnb : ((vs.length : Int) != n) = true := by simp [hn]
  go_enter Try.func18, Try.ntmps18
  go_wp2_with fail
  go_ret2
  exact ⟨rfl, below_alloc _ _⟩

theorem One_no (p : Option Addr) (c : Nat) (vs : List Int) (sc : Bool) (w : World) (hn : vs.length ≠ 1) :
    Calls Try.prog 19 #[.agg #[.slice p vs.length c, .bool sc]] w fun e w' =>
      e = .returned (.tuple #[.int .i64 0, .int .i64 5]) ∧ Below w.heap.size w w' := by
  have hn' : (vs.length : Int) ≠ 1 := by omega
  go_enter Try.func19, Try.ntmps19
  go_wp2_with fail
  refine (Exactly_no p c vs sc 1 _ hn').mono ?_
  rintro e w' ⟨rfl, hb⟩
  go_wp2_with fail
  go_ret2
  exact ⟨rfl, below_1 hb⟩

theorem One_yes (p : Option Addr) (c : Nat) (v : Int) (sc : Bool) (w : World) (h : Ints w p [v]) :
    Calls Try.prog 19 #[.agg #[.slice p 1 c, .bool sc]] w fun e w' =>
      e = .returned (.tuple #[.int .i64 v, .int .i64 0]) ∧ Below w.heap.size w w' := by
  go_enter Try.func19, Try.ntmps19
  go_wp2_with fail
  refine (Exactly_yes p c [v] sc _ (h.keep (below_alloc _ _)) (by simp)).mono ?_
  rintro e1 w1 ⟨⟨q, c', rfl, hnew⟩, hb⟩
  have hi : Ints w1 q [v] := hnew.ints h.i64 (by simp)
  obtain ⟨b1, o1, rfl, -, hc1⟩ := hi.at (k := 0) (by simp)
  have hc1' : w1.cell? ⟨b1, o1, none⟩ = some (.int .i64 v) := by simpa [nth] using hc1
  clear hc1 hnew
  go_wp2_with fail
  go_ret2
  exact ⟨rfl, below_1 hb⟩

end Go.Proofs.Ytolkgjbljdmadaa
