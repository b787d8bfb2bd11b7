/- What array.Tabulate returns: an error for a list that is no right shape; else the array of the results, one call for each offset, in order. -/
import Derived.Test.YthkfjdhakbjllaaTab
namespace Go.Proofs.Ythkfjdhakbjllaa
open Go.RowKit Go.Shelf
set_option linter.unusedVariables false

theorem Chg.from {S S' : Nat → Prop} {w a b : World} (hb : Below w.heap.size w a) (h : Chg S a b) (hs : ∀ k, k < w.heap.size → S k → S' k) : Chg S' w b :=
  ⟨h.os.trans hb.os, h.tape.trans hb.tape, h.output.trans hb.output, Nat.le_trans hb.size h.size, fun k hk hn => (h.block k (Nat.lt_of_lt_of_le hk hb.size) fun h' => hn (hs k hk h')).trans (hb.block k hk)⟩

theorem ShapeCheck_is (s : List Int) (n : Int) (hn : shapeS s = n) (a : Option Addr) (c : Nat) (w : World) (h : Ints w a s) :
    Calls Try.prog 80 #[.slice a s.length c] w fun e w' => e = .returned (.int .i64 n) ∧ w = w' := by
  have := ShapeCheck_any a c s w h
  rw [hn] at this
  exact this
theorem ShapeCells_is (s : List Int) (n : Int) (hn : cellsS s = n) (a : Option Addr) (c : Nat) (w : World) (h : Ints w a s) :
    Calls Try.prog 77 #[.slice a s.length c] w fun e w' => e = .returned (.int .i64 n) ∧ w = w' := by
  have := ShapeCells_any a c s w h
  rw [hn] at this
  exact this

theorem Tabulate_no (fv : Value) (s : List Int) (p : Option Addr) (c : Nat) (w : World) (hz : shapeS s ≠ 0) (hp : Ints w p s) (hf : ∃ gf first lb, fv = .func (.func gf) first lb) :
    Calls Try.prog 45 #[.slice p s.length c, fv] w fun e w' => e = .returned (.tuple #[.agg #[.slice none 0 0, .slice none 0 0], .int .i64 (shapeS s)]) ∧ Below w.heap.size w w' := by
  obtain ⟨gf, first, lb, rfl⟩ := hf
  have hzb : (shapeS s != 0) = true := by simp [hz]
  go_enter Try.func45, Try.ntmps45
  go_wp2_with fail
  refine (ShapeCheck_any _ _ _ _ (hp.a2 _ _)).mono ?_
  rintro e w' ⟨rfl, rfl⟩
  go_wp2_with fail
  refine bodyPost_ret (v := .tuple #[.agg #[.slice none 0 0, .slice none 0 0], .int .i64 (shapeS s)]) (by simp [results, Try.results45, go_sem]) rfl ⟨rfl, ?_⟩
  go_grown

set_option maxHeartbeats 2000000 in
theorem Tabulate_yes (gf : Nat) (first lb : Array Value) (row : Option Nat) (Inv : Nat → World → Prop) (F : Nat → Int) (s : List Int) (n : Nat) (eg : ∀ args w, (callFunc gf args).run Try.prog w = .ok (.enter gf args) w)
    (p : Option Addr) (c : Nat) (w : World) (hG : Gives gf first lb row w.heap.size Inv F s n) (hz : shapeS s = 0) (hn : cellsS s = (n : Int)) (hrow : ∀ r, row = some r → r < w.heap.size) (hI : Inv 0 w) (hp : Ints w p s) :
    Calls Try.prog 45 #[.slice p s.length c, .func (.func gf) first lb] w fun e w' =>
      (∃ p' c' q' d', e = .returned (.tuple #[.agg #[.slice p' s.length c', .slice q' ((List.range n).map F).length d'], .int .i64 0]) ∧ Ints w' p' s ∧ Ints w' q' ((List.range n).map F)) ∧ Inv n w' ∧ Chg (fun j => some j = row) w w' := by
  have hl := (shapeS_zero.1 hz).len
  have hcb := (cellsS_bd s).2
  have hnb : n ≤ 65536 := by omega
  have Hn := Lib.hid hn
  have HG := Lib.hid hG
  have Hrow := Lib.hid hrow
  have HI := Lib.hid hI
  clear hn hG hrow hcb hI
  go_enter Try.func45, Try.ntmps45
  go_wp2_with fail
  refine (ShapeCheck_is s 0 hz _ _ _ (hp.a2 _ _)).mono ?_
  rintro e w' ⟨rfl, rfl⟩
  go_wp2_with fail
  refine (copied_int_any _ _ s _ (hp.a2 _ _) (by omega)).mono ?_
  rintro e w1 ⟨⟨p', c', rfl, hn1⟩, hb1⟩
  have hz1 := hb1.size
  have hf0 := hb1.cell (p := ⟨w.heap.size, 0, none⟩) (lt_a0 _ _ _)
  have hr0 := hb1.cell (p := ⟨w.heap.size + 1, 0, none⟩) (lt_a1 _ _ _)
  have hr1 := hb1.cell (p := ⟨w.heap.size + 1, 1, none⟩) (lt_a1 _ _ _)
  have hq0 := hb1.frozen (p := ⟨w.heap.size + 1, 0, none⟩) (lt_a1 _ _ _)
  have hq1 := hb1.frozen (p := ⟨w.heap.size + 1, 1, none⟩) (lt_a1 _ _ _)
  simp [go_sem] at hf0 hr0 hr1 hq0 hq1 hz1
  have hbw := below_2 hb1
  clear hb1
  go_wp2_with fail
  refine (ShapeCells_is s n Hn.out _ _ _ (hp.keep hbw)).mono ?_
  rintro e w' ⟨rfl, rfl⟩
  go_wp2_with (at_make; refine make_i64s rfl _ _ rfl n rfl rfl (by omega) ?_; intro w2 hown hg)
  have hg2 := below_grown hg
  have hz2 := hown.lt
  have hb12 := hg2
  have hW : Below w.heap.size w (w2.alloc (.cells #[.slice p' s.length c', .slice (some ⟨w1.heap.size, 0, none⟩) n n] 43)) := below_t (below_t hbw hg2) (below_alloc _ _)
  have hf0 := (hg2.cell (p := ⟨w.heap.size, 0, none⟩) (by show w.heap.size < _; omega)).trans hf0
  have hr0 := (hg2.cell (p := ⟨w.heap.size + 1, 0, none⟩) (by show w.heap.size + 1 < _; omega)).trans hr0
  have hr1 := (hg2.cell (p := ⟨w.heap.size + 1, 1, none⟩) (by show w.heap.size + 1 < _; omega)).trans hr1
  have hq0 := (hg2.frozen (p := ⟨w.heap.size + 1, 0, none⟩) (by show w.heap.size + 1 < _; omega)).trans hq0
  have hq1 := (hg2.frozen (p := ⟨w.heap.size + 1, 1, none⟩) (by show w.heap.size + 1 < _; omega)).trans hq1
  have hnr : ∀ k, w.heap.size ≤ k → some k ≠ row := fun k hk h => by have := Hrow.out _ h.symm; omega
  have Hnr := Lib.hid hnr
  have hn1' : New (w.heap.size + 2) w1 p' 3 (s.map (.int .i64)) := hn1.mono (by simp)
  have hn2 := hn1'.keep' hg2
  have hp2 : Ints w2 p' s := hn2.ints' hp
  have Hp' : Hid (s = [] ∨ ∃ x, p' = some ⟨x, 0, none⟩ ∧ w.heap.size + 2 ≤ x ∧ x < w1.heap.size) := by
    rcases hn1' with h | ⟨x, h1, h2, h3⟩
    · exact .inl (by simpa using h)
    · exact .inr ⟨x, h1, h2, h3.lt⟩
  have hox := (below_alloc w2 (.cells #[.slice p' s.length c', .slice (some ⟨w1.heap.size, 0, none⟩) n n] 43))
  have hIW := HG.out.1 0 w (w2.alloc (.cells #[.slice p' s.length c', .slice (some ⟨w1.heap.size, 0, none⟩) n n] 43)) HI.out (fun j hj => hW.block j hj)
  have HIW := Lib.hid hIW
  clear hIW hnr hn1' hn1 hn2 hg
  have hpS : Hid (s = [] ∨ ∀ x y, p' = some ⟨x, y, none⟩ → ¬ (x = w1.heap.size ∨ some x = row)) := by
    rcases Hp'.out with h | ⟨x', h1, h2, h3⟩
    · exact .inl h
    · refine .inr fun x y hxy => ?_
      rw [hxy] at h1
      cases h1
      rintro (h | h)
      · omega
      · exact Hnr.out _ (by omega) h
  have hpR : Hid (s = [] ∨ ∀ x y, p' = some ⟨x, y, none⟩ → ¬ x = w.heap.size + 1) := by
    rcases Hp'.out with h | ⟨x', h1, h2, h3⟩
    · exact .inl h
    · refine .inr fun x y hxy => ?_
      rw [hxy] at h1
      cases h1
      omega
  refine (each_any gf first lb row w.heap.size Inv F s n eg HG.out Hn.out.symm _ w.heap.size w2.heap.size w1.heap.size n c' p' (List.replicate n 0) (hW.size) (by simp; omega) (by simp) (by simp; omega) (Hnr.out _ (Nat.le_refl _)) (Hnr.out _ (by omega)) (Hnr.out _ (by omega)) (by omega) (by omega) (by omega) Hrow.out
    ((hox.cell (p := ⟨w.heap.size, 0, none⟩) (by show w.heap.size < _; omega)).trans hf0) (by simp [go_sem]) (hown.keep hox hz2) (by simp) HIW.out (hp2.keep hox) hpS.out).mono ?_
  rintro e w3 ⟨⟨v, rfl⟩, hI3, hch, ho3⟩
  have hz3 := hch.size
  rw [World.size_alloc] at hz3
  have hnb2 : ¬ (w2.heap.size = w1.heap.size ∨ some w2.heap.size = row) := fun h => h.elim (by omega) (Hnr.out _ (by omega))
  have hnb1 : ¬ (w.heap.size + 1 = w1.heap.size ∨ some (w.heap.size + 1) = row) := fun h => h.elim (by omega) (Hnr.out _ (by omega))
  have hx0 := hch.cell (p := ⟨w2.heap.size, 0, none⟩) (by simp) hnb2
  have hx1 := hch.cell (p := ⟨w2.heap.size, 1, none⟩) (by simp) hnb2
  simp [go_sem] at hx0 hx1
  have hr0 := ((hch.cell (p := ⟨w.heap.size + 1, 0, none⟩) (by simp; omega) hnb1).trans (hox.cell (p := ⟨w.heap.size + 1, 0, none⟩) (by show w.heap.size + 1 < _; omega))).trans hr0
  have hr1 := ((hch.cell (p := ⟨w.heap.size + 1, 1, none⟩) (by simp; omega) hnb1).trans (hox.cell (p := ⟨w.heap.size + 1, 1, none⟩) (by show w.heap.size + 1 < _; omega))).trans hr1
  have hq0 := ((hch.frozen (p := ⟨w.heap.size + 1, 0, none⟩) (by simp; omega) hnb1).trans (hox.frozen (p := ⟨w.heap.size + 1, 0, none⟩) (by show w.heap.size + 1 < _; omega))).trans hq0
  have hq1 := ((hch.frozen (p := ⟨w.heap.size + 1, 1, none⟩) (by simp; omega) hnb1).trans (hox.frozen (p := ⟨w.heap.size + 1, 1, none⟩) (by show w.heap.size + 1 < _; omega))).trans hq1
  have hp3 : Ints w3 p' s := (hp2.keep hox).chg' hch hpS.out
  clear hf0
  go_wp2_with fail
  refine bodyPost_ret (v := .tuple #[.agg #[.slice p' s.length c', .slice (some ⟨w1.heap.size, 0, none⟩) n n], .int .i64 0]) (by simp [results, Try.results45, go_sem, hr0, hr1]) rfl ?_
  have hchw : Chg (fun j => some j = row) w w3 := Chg.from hW hch (fun k hk h => h.elim (fun h => by omega) id)
  have hset : ∀ (W : World) (v : Value) (o : Nat), Chg (fun j => some j = row) w W → Chg (fun j => some j = row) w (W.setCell ⟨w.heap.size + 1, o, none⟩ v) := fun W v o h =>
    ⟨h.os, h.tape, h.output, by simpa [World.setCell] using h.size, fun k hk hn => (Below.heap_setCell W _ v k (by show k ≠ w.heap.size + 1; omega)).trans (h.block k hk hn)⟩
  refine ⟨⟨p', c', some ⟨w1.heap.size, 0, none⟩, n, ?_, ?_, ?_⟩, ?_, ?_⟩
  · simp
  · have hset1 : ∀ (W : World) (v : Value) (o : Nat), Chg (fun j => j = w.heap.size + 1) W (W.setCell ⟨w.heap.size + 1, o, none⟩ v) := fun W v o => (Chg.refl (fun j => j = w.heap.size + 1) W).set (p := ⟨w.heap.size + 1, o, none⟩) rfl v
    exact (hp3.chg' (hset1 _ _ _) hpR.out).chg' (hset1 _ _ _) hpR.out
  · have ho4 := (ho3.other (a := ⟨w.heap.size + 1, 0, none⟩) (by show w.heap.size + 1 ≠ _; omega) (.slice p' s.length c')).other (a := ⟨w.heap.size + 1, 1, none⟩) (by show w.heap.size + 1 ≠ _; omega) (.slice (some ⟨w1.heap.size, 0, none⟩) n n)
    refine ⟨.inr ⟨_, 0, rfl, ho4.lt, fun i u hu => by rw [Nat.zero_add]; exact ho4.cell hu⟩, ?_, by simp; omega⟩
    intro x hx
    obtain ⟨k, hk, rfl⟩ := List.mem_map.1 hx
    exact HG.out.2.1 k (List.mem_range.1 hk)
  · exact HG.out.1 _ _ _ hI3 fun j hj => (Below.heap_setCell _ _ _ j (by show j ≠ w.heap.size + 1; omega)).trans (Below.heap_setCell _ _ _ j (by show j ≠ w.heap.size + 1; omega))
  · exact hset _ _ _ (hset _ _ _ hchw)
end Go.Proofs.Ythkfjdhakbjllaa
