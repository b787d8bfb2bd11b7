/- What array.Tabulate returns, for a function value that keeps a state of its own in one block. -/
import Derived.Test.YthkfjdhakbjllaaRef05
namespace Go.Proofs.Ythkfjdhakbjllaa
open Go.RowKit Go.Shelf
set_option linter.unusedVariables false

/-- new blocks, and writes to blocks in S alone -/
structure Chg (S : Nat → Prop) (w w' : World) : Prop where
  os : w'.os = w.os
  tape : w'.tape = w.tape
  output : w'.output = w.output
  size : w.heap.size ≤ w'.heap.size
  block : ∀ k, k < w.heap.size → ¬ S k → w'.heap[k]? = w.heap[k]?

theorem Chg.refl (S : Nat → Prop) (w : World) : Chg S w w := ⟨rfl, rfl, rfl, Nat.le_refl _, fun _ _ _ => rfl⟩
theorem Chg.trans {S : Nat → Prop} {a b c : World} (h : Chg S a b) (k : Chg S b c) : Chg S a c :=
  ⟨k.os.trans h.os, k.tape.trans h.tape, k.output.trans h.output, Nat.le_trans h.size k.size, fun i hi hn => (k.block i (Nat.lt_of_lt_of_le hi h.size) hn).trans (h.block i hi hn)⟩
theorem Chg.mono {S S' : Nat → Prop} {a b : World} (h : Chg S a b) (hs : ∀ k, S k → S' k) : Chg S' a b := ⟨h.os, h.tape, h.output, h.size, fun k hk hn => h.block k hk fun hs' => hn (hs k hs')⟩
theorem Chg.of_below {S : Nat → Prop} {a b : World} (h : Below a.heap.size a b) : Chg S a b := ⟨h.os, h.tape, h.output, h.size, fun k hk _ => h.block k hk⟩
theorem Chg.below {S : Nat → Prop} {a b : World} {B : Nat} (h : Chg S a b) (hB : B ≤ a.heap.size) (hs : ∀ k, S k → B ≤ k) : Below B a b :=
  ⟨h.os, h.tape, h.output, h.size, fun k hk => h.block k (by omega) fun hs' => by have := hs k hs'; omega⟩
theorem Chg.cell {S : Nat → Prop} {a b : World} (h : Chg S a b) {p : Addr} (hp : p.block < a.heap.size) (hs : ¬ S p.block) : b.cell? p = a.cell? p := World.cell?_of_block (w := a) (h.block p.block hp hs)
theorem Chg.frozen {S : Nat → Prop} {a b : World} (h : Chg S a b) {p : Addr} (hp : p.block < a.heap.size) (hs : ¬ S p.block) : b.frozen? p = a.frozen? p := World.frozen?_of_block (w := a) (h.block p.block hp hs)
theorem Chg.set {S : Nat → Prop} {a b : World} (h : Chg S a b) {p : Addr} (hs : S p.block) (v : Value) : Chg S a (b.setCell p v) :=
  ⟨h.os, h.tape, h.output, by simpa [World.setCell] using h.size, fun k hk hn => (Below.heap_setCell b p v k (fun e => hn (e ▸ hs))).trans (h.block k hk hn)⟩
theorem Chg.drewN {S : Nat → Prop} {a b : World} (h : Chg S a b) (n : Nat) : Chg S a (b.drewN n) := ⟨h.os, h.tape, h.output, h.size, h.block⟩
theorem Own.chg {S : Nat → Prop} {a b : World} {g : Nat} {e : TypeId} {vs : List Value} (h : Own a g e vs) (hc : Chg S a b) (hs : ¬ S g) : Own b g e vs := by
  obtain ⟨r, h'⟩ := h
  exact ⟨r, (hc.block g (Array.getElem?_eq_some_iff.1 h').1 hs).trans h'⟩
theorem Cells.chg {S : Nat → Prop} {a b : World} {p : Option Addr} {vs : List Value} (h : Cells a p vs) (hc : Chg S a b) (hs : ∀ x y, p = some ⟨x, y, none⟩ → ¬ S x) : Cells b p vs := by
  rcases h with h | ⟨b', off, hp, hlt, hcc⟩
  · exact .inl h
  · exact .inr ⟨b', off, hp, Nat.lt_of_lt_of_le hlt hc.size, fun i u hu => (hc.cell (p := ⟨b', off + i, none⟩) hlt (hs _ _ hp)).trans (hcc i u hu)⟩
theorem Ints.chg {S : Nat → Prop} {a b : World} {p : Option Addr} {xs : List Int} (h : Ints a p xs) (hc : Chg S a b) (hs : ∀ x y, p = some ⟨x, y, none⟩ → ¬ S x) : Ints b p xs := ⟨h.cells.chg hc hs, h.i64, h.small⟩

theorem Ints.chg' {S : Nat → Prop} {a b : World} {p : Option Addr} {xs : List Int} (h : Ints a p xs) (hc : Chg S a b) (hs : xs = [] ∨ ∀ x y, p = some ⟨x, y, none⟩ → ¬ S x) : Ints b p xs := by
  rcases hs with rfl | hs
  · exact ⟨.inl rfl, h.i64, h.small⟩
  · exact h.chg hc hs

/-- a function value that gives F k at call k, whose state Inv lies in block row -/
def Gives (gf : Nat) (first lb : Array Value) (row : Option Nat) (D : Nat) (Inv : Nat → World → Prop) (F : Nat → Int) (s : List Int) (n : Nat) : Prop :=
  (∀ k W W', Inv k W → (∀ j, j < D → W'.heap[j]? = W.heap[j]?) → Inv k W') ∧ (∀ k, k < n → I64 (F k)) ∧
  ∀ k W q c, k < n → D ≤ W.heap.size → Inv k W → Ints W q (unoff s k) →
    Calls Try.prog gf (first.push (.slice q (unoff s k).length c) ++ lb) W fun e W' => e = .returned (.int .i64 (F k)) ∧ Inv (k + 1) W' ∧ Chg (fun j => some j = row) W W'

set_option maxHeartbeats 1000000 in
theorem Tab1_any (gf : Nat) (first lb : Array Value) (row : Option Nat) (D : Nat) (Inv : Nat → World → Prop) (F : Nat → Int) (s : List Int) (n : Nat) (eg : ∀ args w, (callFunc gf args).run Try.prog w = .ok (.enter gf args) w)
    (hG : Gives gf first lb row D Inv F s n) (k : Nat) (hk : k < n) (W : World) (b0 b2 g dc c : Nat) (q : Option Addr) (vs : List Int)
    (hD : D ≤ W.heap.size) (hb0 : b0 < W.heap.size) (hb2 : b2 < W.heap.size) (h0r : some b0 ≠ row) (h2r : some b2 ≠ row) (hgr : some g ≠ row) (hDg : D ≤ g)
    (hc0 : W.cell? ⟨b0, 0, none⟩ = some (.func (.func gf) first lb)) (hc2 : W.cell? ⟨b2, 1, none⟩ = some (.slice (some ⟨g, 0, none⟩) n dc))
    (ho : Own W g 2 (vs.map (.int .i64))) (hvl : vs.length = n) (hI : Inv k W) (hq : Ints W q (unoff s k)) (hn : n ≤ 1099511627776) :
    Calls Try.prog 86 #[.int .i64 k, .slice q (unoff s k).length c, .pointer (some ⟨b0, 0, none⟩), .pointer (some ⟨b2, 0, none⟩)] W fun e W' =>
      (∃ v, e = .returned v) ∧ Inv (k + 1) W' ∧ Chg (fun j => j = g ∨ some j = row) W W' ∧ Own W' g 2 ((vs.set k (F k)).map (.int .i64)) := by
  have hkv : k < vs.length := by omega
  have hki : (k : Int) < (n : Int) := by omega
  have Hcall := Lib.hid (fun W' (hc : W'.heap = W.heap) (hot : W'.os = W.os ∧ W'.tape = W.tape ∧ W'.output = W.output) => hG.2.2 k W' q c hk (by rw [hc]; exact hD) (hG.1 k W W' hI (fun j _ => by rw [hc])) ⟨by
      rcases hq.cells with h | ⟨b, off, hp, hlt, hcc⟩
      · exact .inl h
      · exact .inr ⟨b, off, hp, by rw [hc]; exact hlt, fun i u hu => (World.cell?_of_block (w := W) (by rw [hc])).trans (hcc i u hu)⟩, hq.i64, hq.small⟩)
  have Hg := Lib.hid hG
  have Hvl := Lib.hid hvl
  have ecell := nth_map hkv
  clear hG hvl
  go_enter Try.func86, Try.ntmps86
  go_wp2_with fail
  go_region_with (go_at_fn gf; refine (Hcall.out W.drew rfl ⟨rfl, rfl, rfl⟩).mono ?_; rintro e W1 ⟨rfl, hI1, hch⟩; have hc2' := (hch.cell (p := ⟨b2, 1, none⟩) hb2 h2r).trans hc2; have ho1 := (show Own W.drew g 2 _ from ho).chg hch hgr; have hcell := ho1.cell ecell; have hfr := ho1.frozen k; have hc0' := (hch.cell (p := ⟨b0, 0, none⟩) hb0 h0r).trans hc0)
  all_goals
    go_wp2_with fail
    go_end0
    refine ⟨⟨_, rfl⟩, ?_, ?_, ?_⟩
    · exact Hg.out.1 _ _ _ hI1 fun j hj => Below.heap_setCell _ _ _ _ (by show j ≠ g; omega)
    · exact (((Chg.refl _ W).drewN 1).trans (hch.mono fun j hj => .inr hj)).set (p := ⟨g, k, none⟩) (.inl rfl) _
    · rw [← map_set]
      exact ho1.set (by simpa using hkv) _

set_option maxHeartbeats 2000000 in
theorem each_any (gf : Nat) (first lb : Array Value) (row : Option Nat) (D : Nat) (Inv : Nat → World → Prop) (F : Nat → Int) (s : List Int) (n : Nat) (eg : ∀ args w, (callFunc gf args).run Try.prog w = .ok (.enter gf args) w)
    (hG : Gives gf first lb row D Inv F s n) (hn : (n : Int) = cellsS s) (W : World) (b0 b2 g dc c : Nat) (p : Option Addr) (vs : List Int)
    (hD : D ≤ W.heap.size) (hb0 : b0 < W.heap.size) (hb2 : b2 < W.heap.size) (hg : g < W.heap.size) (h0r : some b0 ≠ row) (h2r : some b2 ≠ row) (hgr : some g ≠ row) (hDg : D ≤ g) (h0g : b0 ≠ g) (h2g : b2 ≠ g) (hrow : ∀ r, row = some r → r < D)
    (hc0 : W.cell? ⟨b0, 0, none⟩ = some (.func (.func gf) first lb)) (hc2 : W.cell? ⟨b2, 1, none⟩ = some (.slice (some ⟨g, 0, none⟩) n dc))
    (ho : Own W g 2 (vs.map (.int .i64))) (hvl : vs.length = n) (hI : Inv 0 W) (hp : Ints W p s) (hpS : s = [] ∨ ∀ x y, p = some ⟨x, y, none⟩ → ¬ (x = g ∨ some x = row)) :
    Calls Try.prog 85 #[.agg #[.slice p s.length c, .slice (some ⟨g, 0, none⟩) n dc], .func (.func 86) #[] #[.pointer (some ⟨b0, 0, none⟩), .pointer (some ⟨b2, 0, none⟩)]] W fun e W' =>
      (∃ v, e = .returned v) ∧ Inv n W' ∧ Chg (fun j => j = g ∨ some j = row) W W' ∧ Own W' g 2 (((List.range n).map F).map (.int .i64)) := by
  have hcb := (cellsS_bd s).2
  have hnb : n ≤ 65536 := by omega
  have Hn := Lib.hid hn
  have Hvl := Lib.hid hvl
  have HG := Lib.hid hG
  have HpS := Lib.hid hpS
  have Hrow := Lib.hid hrow
  have heach := enters_of Try.func86 (by kernel_rfl) rfl
  clear hn hvl hG hpS hrow hcb
  go_enter Try.func85, Try.ntmps85
  go_wp2_with fail
  go_loopw [10] (fun i wr => ∃ (k : Nat) (us : List Int), k ≤ n ∧ i = .int .i64 k ∧ Inv k wr ∧ Own wr g 2 (us.map (.int .i64)) ∧ Chg (fun j => j = g ∨ some j = row) (W.alloc (.cells #[.slice p s.length c, .slice (some ⟨g, 0, none⟩) n dc] 43)) wr ∧ Hid (us.length = n ∧ ∀ j, j < k → nth us j = F j)) (fun i _ => n - (intOf i).toNat)
  case atStart =>
    refine ⟨0, vs, Nat.zero_le _, rfl, HG.out.1 _ _ _ hI (fun j hj => Below.heap_alloc _ _ _ (by omega)), ho.keep (below_alloc _ _) hg, Chg.refl _ _, Hvl.out, fun j hj => by omega⟩
  case round =>
    obtain ⟨k, us, hk, rfl, hIk, hok, hch, hI2⟩ := hrel
    have hsz := hch.size
    rw [World.size_alloc] at hsz
    have hbox : ¬ (W.heap.size = g ∨ some W.heap.size = row) := by
      rintro (h | h)
      · omega
      · have := Hrow.out _ h.symm
        omega
    by_cases hlt : k < n
    · have hx0 := hch.cell (p := ⟨W.heap.size, 0, none⟩) (by simp) hbox
      have hx1 := hch.cell (p := ⟨W.heap.size, 1, none⟩) (by simp) hbox
      simp [go_sem] at hx0 hx1
      have hpk : Ints wr p s := (hp.keep (below_alloc _ _)).chg' hch HpS.out
      have hin : inS s k = true := by unfold inS; exact decide_eq_true ⟨by omega, by have := Hn.out; omega⟩
      have Hin := Lib.hid hin
      have hs0 : ¬ (b0 = g ∨ some b0 = row) := fun h => h.elim h0g h0r
      have hs2 : ¬ (b2 = g ∨ some b2 = row) := fun h => h.elim h2g h2r
      have hc0k := (hch.cell (p := ⟨b0, 0, none⟩) (by rw [World.size_alloc]; show b0 < _; omega) hs0).trans (((below_alloc W _).cell (p := ⟨b0, 0, none⟩) hb0).trans hc0)
      have hc2k := (hch.cell (p := ⟨b2, 1, none⟩) (by rw [World.size_alloc]; show b2 < _; omega) hs2).trans (((below_alloc W _).cell (p := ⟨b2, 1, none⟩) hb2).trans hc2)
      have Hc0 := Lib.hid hc0k
      have Hc2 := Lib.hid hc2k
      have hkn : (k : Int) < (n : Int) := by omega
      clear hc0k hc2k hin hs0 hs2
      go_wp2_with fail
      refine (Index_un s k Hin.out _ _ _ hpk).mono ?_
      rintro e w1 ⟨⟨q, c', rfl, hq⟩, hb1⟩
      have hz1 := hb1.size
      have hok1 := hok.keep hb1 hok.lt
      have hul : us.length = n := hI2.out.1
      have Hul := Lib.hid hul
      clear hul
      go_wp2_with fail
      refine (Tab1_any gf first lb row D Inv F s n eg HG.out k hlt w1 b0 b2 g dc c' q us (by omega) (by omega) (by omega) h0r h2r hgr hDg ((hb1.cell (p := ⟨b0, 0, none⟩) (by show b0 < _; omega)).trans Hc0.out) ((hb1.cell (p := ⟨b2, 1, none⟩) (by show b2 < _; omega)).trans Hc2.out) hok1 Hul.out (HG.out.1 _ _ _ hIk fun j hj => hb1.block j (by omega)) hq (by omega)).mono ?_
      rintro e w2 ⟨⟨v, rfl⟩, hI3, hch2, ho2⟩
      go_wp2_with fail
      go_roundw
      case rel =>
        refine ⟨k + 1, _, by omega, by go_num, hI3, ho2, (hch.trans (Chg.of_below hb1)).trans hch2, by rw [List.length_set]; exact Hul.out, fun j hj => ?_⟩
        by_cases hjk : j = k
        · subst hjk
          exact nth_set (by rw [Hul.out]; exact hlt) _
        · rw [nth_set_ne hjk]
          exact hI2.out.2 j (by omega)
      case measure => simp [intOf]; omega
    · go_wp2
      go_end0
      have hkn : k = n := by omega
      subst hkn
      have e : us = (List.range k).map F := ext_nth (by rw [hI2.out.1]; simp) fun j hj => by
        rw [hI2.out.2 j (by rw [hI2.out.1] at hj; exact hj)]
        have : j < k := by rw [hI2.out.1] at hj; exact hj
        simp [nth, List.getD_eq_getElem?_getD, this]
      subst e
      exact ⟨⟨_, rfl⟩, hIk, (Chg.of_below (below_alloc W _)).trans hch, hok⟩
end Go.Proofs.Ythkfjdhakbjllaa
