/- The law ArrayKeeps, walked: it returns true at all arguments and writes nothing that was there. No condition. -/
import Derived.Test.YthkfjdhakbjllaaLaw05h
import Derived.Test.YthkfjdhakbjllaaLaw05d
import Derived.Test.YthkfjdhakbjllaaLaw05g
namespace Go.Proofs.Ythkfjdhakbjllaa
open Go.RowKit Go.Shelf
set_option linter.unusedVariables false
set_option linter.unusedSimpArgs false

theorem RefASmall_is (s d : List Int) (b : Bool) (hb : (smallS s && (arrS s d == 0)) = b) (p q : Option Addr) (c f : Nat) (w : World) (h : Ints w p s) (h' : Ints w q d) :
    Calls Try.prog 48 #[.agg #[.slice p s.length c, .slice q d.length f], .int .i64 300] w fun e w' => e = .returned (.bool b) ∧ Below w.heap.size w w' := hb ▸ RefASmall_any p q c f s d w h h'

/-- the block of a row of the call's own, if it has cells -/
def RowAt (p : Option Addr) (xs : List Int) (j : Nat) : Prop := xs ≠ [] ∧ p = some ⟨j, 0, none⟩
theorem New.rowAt {B : Nat} {w : World} {p : Option Addr} {e : TypeId} {xs : List Int} (h : New B w p e (xs.map (.int .i64))) {j : Nat} (hj : RowAt p xs j) : B ≤ j ∧ j < w.heap.size ∧ Own w j e (xs.map (.int .i64)) := by
  rcases h with h | ⟨g, hp, hg, ho⟩
  · exact absurd (by simpa using h) hj.1
  · rw [hj.2] at hp
    cases hp
    exact ⟨hg, ho.lt, ho⟩
theorem New.row {B : Nat} {w : World} {p : Option Addr} {e : TypeId} {xs : List Int} (h : New B w p e (xs.map (.int .i64))) (hx : 0 < xs.length) : ∃ g, p = some ⟨g, 0, none⟩ ∧ Own w g e (xs.map (.int .i64)) := by
  rcases h with h | ⟨g, hp, hg, ho⟩
  · have : xs = [] := by simpa using h
    subst this
    simp at hx
  · exact ⟨g, hp, ho⟩
theorem own_kinds {w : World} {g : Nat} {e e' : TypeId} {us vs : List Value} (h : Own w g e us) (h' : Own w g e' vs) : e = e' := by
  obtain ⟨r, h⟩ := h
  obtain ⟨r', h'⟩ := h'
  rw [h] at h'
  simp only [Option.some.injEq, Obj.cells.injEq] at h'
  exact h'.2.1

/-- the cells of a row of the call's own now -/
def RowIs (w : World) (p : Option Addr) (xs : List Int) (e : TypeId) (us : List Int) : Prop := us.length = xs.length ∧ ∀ j, RowAt p xs j → Own w j e (us.map (.int .i64))
theorem RowIs.start {B : Nat} {w : World} {p : Option Addr} {e : TypeId} {xs : List Int} (h : New B w p e (xs.map (.int .i64))) : RowIs w p xs e xs := ⟨rfl, fun j hj => (h.rowAt hj).2.2⟩
theorem RowIs.set {w : World} {g : Nat} {e : TypeId} {xs us : List Int} (h : RowIs w (some ⟨g, 0, none⟩) xs e us) {k : Nat} (hk : k < xs.length) (v : Int) : RowIs (w.setCell ⟨g, k, none⟩ (.int .i64 v)) (some ⟨g, 0, none⟩) xs e (us.set k v) := by
  refine ⟨by rw [List.length_set]; exact h.1, fun j hj => ?_⟩
  have ho := h.2 j hj
  have e : g = j := by
    have := hj.2
    simp at this
    exact this
  subst e
  rw [← map_set]
  exact ho.set (by rw [List.length_map, h.1]; exact hk) _
theorem RowIs.chg {S : Nat → Prop} {w w' : World} {p : Option Addr} {e : TypeId} {xs us : List Int} (h : RowIs w p xs e us) (hc : Chg S w w') (hs : ∀ j, S j → ¬ RowAt p xs j) : RowIs w' p xs e us :=
  ⟨h.1, fun j hj => (h.2 j hj).chg hc fun hS => hs j hS hj⟩
theorem RowAt.not_of_fresh {p : Option Addr} {xs : List Int} {p1 q1 : Option Addr} {s d : List Int} {B : Nat} (hr : Fresh B p xs) (hT : ∀ j, RowAt p1 s j ∨ RowAt q1 d j → j < B) : xs = [] ∨ ∀ x y, p = some ⟨x, y, none⟩ → ¬ (RowAt p1 s x ∨ RowAt q1 d x) := by
  rcases hr with hr | ⟨g, o, hp, hg⟩
  · exact .inl hr
  · refine .inr fun x y hxy h => ?_
    rw [hp] at hxy
    cases hxy
    have := hT _ h
    omega
theorem Fresh.mono {B B' : Nat} {p : Option Addr} {xs : List Int} (h : Fresh B p xs) (hB : B' ≤ B) : Fresh B' p xs := by
  rcases h with h | ⟨g, o, hp, hg⟩
  · exact .inl h
  · exact .inr ⟨g, o, hp, by omega⟩
theorem Ints.old {w : World} {p : Option Addr} {xs : List Int} (h : Ints w p xs) : xs = [] ∨ ∀ x y, p = some ⟨x, y, none⟩ → x < w.heap.size := by
  rcases h.cells with h' | ⟨b, off, hp, hlt, -⟩
  · exact .inl (by simpa using h')
  · refine .inr fun x y hxy => ?_
    rw [hp] at hxy
    cases hxy
    exact hlt
theorem At2.chg {S : Nat → Prop} {w w' : World} {b : Nat} {u v : Value} (h : At2 w b u v) (hc : Chg S w w') (hs : ¬ S b) : At2 w' b u v :=
  ⟨Nat.lt_of_lt_of_le h.lt hc.size, (hc.cell (p := ⟨b, 0, none⟩) h.lt hs).trans h.c0, (hc.cell (p := ⟨b, 1, none⟩) h.lt hs).trans h.c1⟩

set_option maxRecDepth 100000 in
set_option maxHeartbeats 4000000 in
theorem ArrayKeeps_yes (p : Option Addr) (c : Nat) (s : List Int) (q : Option Addr) (f : Nat) (d : List Int) (w : World) (h : Ints w p s) (h' : Ints w q d) (hs : (smallS s && (arrS s d == 0)) = true) (hsl : s.length ≤ 16) (hdl : d.length ≤ 65536) (ha : arrS s d = 0) :
    Calls Try.prog 11 #[.agg #[.slice p s.length c, .slice q d.length f]] w fun e w' => e = .returned (.bool true) ∧ Below w.heap.size w w' := by
  have Hs := Lib.hid hs
  have Ha := Lib.hid ha
  clear hs ha
  go_enter Try.func11, Try.ntmps11
  go_wp2_with fail
  refine (awake05 _).mono ?_
  rintro e1 w1 ⟨rfl, hb1⟩
  have A := (At2.new w _ (.slice p s.length c) (.slice q d.length f) 43 rfl).keep hb1
  have hA0 := A.c0
  have hA1 := A.c1
  have hb := below_1 hb1
  clear hb1
  go_wp2_with fail
  refine (RefASmall_is s d true Hs.out _ _ _ _ _ (h.keep hb) (h'.keep hb)).mono ?_
  rintro e1 w1a ⟨rfl, hb2⟩
  have A := A.keep hb2
  have hA0 := A.c0
  have hA1 := A.c1
  have hb := below_t hb hb2
  clear hb2
  have hwa := A.lt
  go_wp2_with fail
  refine (RefCopy_any _ _ _ _ s d _ (h.keep hb) (h'.keep hb) (by omega) (by omega)).mono ?_
  rintro e2 w2 ⟨⟨p1, c1, q1, f1, rfl, n1, n2⟩, hb3⟩
  have hbx := below_alloc w2 (.cells #[.slice p1 s.length c1, .slice q1 d.length f1] 43)
  have X := At2.new w2 _ (.slice p1 s.length c1) (.slice q1 d.length f1) 43 rfl
  have N1 := n1.keep' hbx
  have N2 := n2.keep' hbx
  have hT : ∀ j, RowAt p1 s j ∨ RowAt q1 d j → w.heap.size < j ∧ j < w2.heap.size := by
    rintro j (hj | hj)
    · have := n1.rowAt hj
      omega
    · have := n2.rowAt hj
      omega
  have hT12 : ∀ j, RowAt p1 s j → ¬ RowAt q1 d j := by
    intro j h1 h2
    have := own_kinds (n1.rowAt h1).2.2 (n2.rowAt h2).2.2
    exact absurd this (by decide)
  have HT := Lib.hid hT
  have HT12 := Lib.hid hT12
  clear n1 n2 hT hT12
  have hb3 := below_t hb3 hbx
  clear hbx
  have A := A.keep hb3
  have hA0 := A.c0
  have hA1 := A.c1
  have hb := below_t hb hb3
  clear hb3
  have hX0 := X.c0
  have hX1 := X.c1
  have i1 := N1.ints' h
  have i2 := N2.ints' h'
  go_wp2_with fail
  refine (ArrayNew_fresh s d Ha.out _ _ _ _ _ i1 i2 (by omega) (by omega)).mono ?_
  rintro e3 w3 ⟨⟨p2, c2, q2, f2, rfl, b1, b2, r1, r2⟩, hb4⟩
  have hbx := below_alloc w3 (.cells #[.slice p2 s.length c2, .slice q2 d.length f2] 43)
  have B := At2.new w3 _ (.slice p2 s.length c2) (.slice q2 d.length f2) 43 rfl
  have hz3 := hb4.size
  have b1 := b1.keep hbx
  have b2 := b2.keep hbx
  have hb4 := below_t hb4 hbx
  clear hbx
  have N1 := N1.keep' hb4
  have N2 := N2.keep' hb4
  have A := A.keep hb4
  have hA0 := A.c0
  have hA1 := A.c1
  have X := X.keep hb4
  have hX0 := X.c0
  have hX1 := X.c1
  have i1 := i1.keep hb4
  have i2 := i2.keep hb4
  have hb := below_t hb hb4
  clear hb4
  go_wp2_with fail
  refine (ArrayCopy_any _ _ _ _ s d _ i1 i2 (by omega) (by omega)).mono ?_
  rintro e4 w4 ⟨⟨p3, c3, q3, f3, rfl, n3, n4⟩, hb5⟩
  have hbx := below_alloc w4 (.cells #[.slice p3 s.length c3, .slice q3 d.length f3] 43)
  have C := At2.new w4 _ (.slice p3 s.length c3) (.slice q3 d.length f3) 43 rfl
  have hz4 := hb5.size
  have r3 := n3.fresh (B' := w2.heap.size + 1) (by simp at hz3 ⊢; omega)
  have r4 := n4.fresh (B' := w2.heap.size + 1) (by simp at hz3 ⊢; omega)
  have t1 := (n3.ints' h).keep hbx
  have t2 := (n4.ints' h').keep hbx
  have hb5 := below_t hb5 hbx
  clear hbx n3 n4
  have N1 := N1.keep' hb5
  have N2 := N2.keep' hb5
  have A := A.keep hb5
  have hA0 := A.c0
  have hA1 := A.c1
  have X := X.keep hb5
  have hX0 := X.c0
  have hX1 := X.c1
  have B := B.keep hb5
  have hB0 := B.c0
  have hB1 := B.c1
  have i1 := i1.keep hb5
  have i2 := i2.keep hb5
  have b1 := b1.keep hb5
  have b2 := b2.keep hb5
  have hb := below_t hb hb5
  clear hb5
  go_wp2_with fail
  refine (ArrayVector_fresh _ _ d _ i2 (by omega)).mono ?_
  rintro e5 w5 ⟨⟨p4, c4, q4, f4, rfl, v1, v2, r5, r6⟩, hb6⟩
  have hbx := below_alloc w5 (.cells #[.slice p4 1 c4, .slice q4 d.length f4] 43)
  have V := At2.new w5 _ (.slice p4 1 c4) (.slice q4 d.length f4) 43 rfl
  have hz5 := hb6.size
  have v1 := v1.keep hbx
  have v2 := v2.keep hbx
  have hb6 := below_t hb6 hbx
  clear hbx
  have N1 := N1.keep' hb6
  have N2 := N2.keep' hb6
  have A := A.keep hb6
  have hA0 := A.c0
  have hA1 := A.c1
  have X := X.keep hb6
  have hX0 := X.c0
  have hX1 := X.c1
  have B := B.keep hb6
  have hB0 := B.c0
  have hB1 := B.c1
  have C := C.keep hb6
  have hC0 := C.c0
  have hC1 := C.c1
  have b1 := b1.keep hb6
  have b2 := b2.keep hb6
  have t1 := t1.keep hb6
  have t2 := t2.keep hb6
  have hb := below_t hb hb6
  clear hb6
  clear hA0 hA1 hB0 hB1 hC0 hC1
  go_wp2_with fail
  obtain ⟨w6, hw6⟩ : ∃ w6, w5.alloc (.cells #[.slice p4 1 c4, .slice q4 d.length f4] 43) = w6 := ⟨_, rfl⟩
  rw [hw6] at A X B C V N1 N2 b1 b2 t1 t2 v1 v2 hb
  rw [hw6]
  clear hw6 hX0 hX1
  have hzs : w2.heap.size ≤ w3.heap.size ∧ w3.heap.size < w4.heap.size ∧ w4.heap.size < w5.heap.size := by simp at hz3 hz4 hz5; omega
  clear hz3 hz4 hz5
  have X0 := X
  have R1 := RowIs.start N1
  have R2 := RowIs.start N2
  go_loopw [8] (fun i wr => ∃ (k : Nat) (us : List Int), k ≤ s.length ∧ i = .int .i64 k ∧ RowIs wr p1 s 3 us ∧ Chg (fun j => RowAt p1 s j) w6 wr) (fun i _ => s.length - (intOf i).toNat)
  case atStart => exact ⟨0, s, Nat.zero_le _, rfl, R1, Chg.refl _ _⟩
  case round =>
    obtain ⟨k, us, hk, rfl, hR, hch⟩ := hrel
    have hXn : ¬ RowAt p1 s w2.heap.size := fun h => by have := HT.out _ (.inl h); omega
    have X := X.chg hch hXn
    have hX0 := X.c0
    have hX1 := X.c1
    by_cases hlt : k < s.length
    · obtain ⟨g, rfl, -⟩ := N1.row (by omega)
      have hne : s ≠ [] := by intro h; subst h; simp at hlt
      have ho := hR.2 g ⟨hne, rfl⟩
      have hkl : k < us.length := by have := hR.1; omega
      have hcell := ho.cell (nth_map hkl)
      have hfr := ho.frozen k
      have hki : (k : Int) < (s.length : Int) := by omega
      have Hne := Lib.hid hne
      clear hne
      go_wp2
      go_roundw
      case rel => exact ⟨k + 1, _, by omega, by go_num, hR.set hlt _, hch.set (p := ⟨g, k, none⟩) ⟨Hne.out, rfl⟩ _⟩
      case measure => simp [intOf]; omega
    · have hch1 : Chg (fun j => RowAt p1 s j ∨ RowAt q1 d j) w6 wr := hch.mono fun j hj => .inl hj
      have R2 := R2.chg hch fun j hj => HT12.out j hj
      clear hR hch
      go_wp2
      obtain ⟨wo, hwo⟩ : ∃ wo : World, wo = wr := ⟨_, rfl⟩
      rw [← hwo] at R2 hch1 X hX0 hX1
      rw [← hwo]
      clear hwo
      go_loopw [9] (fun i wr => ∃ (k : Nat) (us : List Int), k ≤ d.length ∧ i = .int .i64 k ∧ RowIs wr q1 d 2 us ∧ Chg (fun j => RowAt p1 s j ∨ RowAt q1 d j) w6 wr) (fun i _ => d.length - (intOf i).toNat)
      case atStart => exact ⟨0, d, Nat.zero_le _, rfl, R2, hch1⟩
      case round =>
        obtain ⟨k, us, hk, rfl, hR, hch⟩ := hrel
        have hXn : ¬ (RowAt p1 s w2.heap.size ∨ RowAt q1 d w2.heap.size) := fun h => by have := HT.out _ h; omega
        have X := X0.chg hch hXn
        have hX0 := X.c0
        have hX1 := X.c1
        by_cases hlt : k < d.length
        · obtain ⟨g, rfl, -⟩ := N2.row (by omega)
          have hne : d ≠ [] := by intro h; subst h; simp at hlt
          have ho := hR.2 g ⟨hne, rfl⟩
          have hkl : k < us.length := by have := hR.1; omega
          have hcell := ho.cell (nth_map hkl)
          have hfr := ho.frozen k
          have hki : (k : Int) < (d.length : Int) := by omega
          have Hne := Lib.hid hne
          clear hne
          go_wp2
          go_roundw
          case rel => exact ⟨k + 1, _, by omega, by go_num, hR.set hlt _, hch.set (p := ⟨g, k, none⟩) (.inr ⟨Hne.out, rfl⟩) _⟩
          case measure => simp [intOf]; omega
        · have A := A.chg hch (fun h => by have := HT.out _ h; omega)
          have B := B.chg hch (fun h => by have := HT.out _ h; omega)
          have C := C.chg hch (fun h => by have := HT.out _ h; omega)
          have V := V.chg hch (fun h => by have := HT.out _ h; omega)
          have hT2 : ∀ j, RowAt p1 s j ∨ RowAt q1 d j → j < w2.heap.size := fun j hj => (HT.out j hj).2
          have b1 := b1.chg' hch (RowAt.not_of_fresh (r1.mono (B' := w2.heap.size) (by simp)) hT2)
          have b2 := b2.chg' hch (RowAt.not_of_fresh (r2.mono (B' := w2.heap.size) (by simp)) hT2)
          have t1 := t1.chg' hch (RowAt.not_of_fresh (r3.mono (B' := w2.heap.size) (by omega)) hT2)
          have t2 := t2.chg' hch (RowAt.not_of_fresh (r4.mono (B' := w2.heap.size) (by omega)) hT2)
          have v1 := v1.chg' hch (RowAt.not_of_fresh (r5.mono (B' := w2.heap.size) (by simp; omega)) hT2)
          have v2 := v2.chg' hch (RowAt.not_of_fresh (r6.mono (B' := w2.heap.size) (by simp; omega)) hT2)
          have hs6 := (h.keep hb).chg' hch (h.old.imp id fun hx x y hp ht => by have := hx x y hp; have := HT.out _ ht; omega)
          have hd6 := (h'.keep hb).chg' hch (h'.old.imp id fun hx x y hp ht => by have := hx x y hp; have := HT.out _ ht; omega)
          have hb := hb.trans (hch.below hb.size fun k hk => by have := HT.out _ hk; omega)
          have hself := aeqS_self s d
          have hself2 := aeqS_self [(d.length : Int)] d
          have Hself := Lib.hid hself
          have Hself2 := Lib.hid hself2
          have hlen : ∀ x ∈ [(d.length : Int)], I64 x := by
            intro x hx
            simp at hx
            subst hx
            exact ⟨by omega, by omega⟩
          have Hlen := Lib.hid hlen
          clear hR hch hself hself2 hlen R2 hch1
          have hA0 := A.c0
          have hA1 := A.c1
          have hB0 := B.c0
          have hB1 := B.c1
          have hC0 := C.c0
          have hC1 := C.c1
          have hV0 := V.c0
          have hV1 := V.c1
          go_wp2_with fail
          refine (RefAEqual_is s d s d true Hself.out _ _ _ _ _ _ _ _ _ b1 b2 hs6 hd6).mono ?_
          rintro e w' ⟨rfl, hb7⟩
          have A := A.keep hb7
          have hA0 := A.c0
          have hA1 := A.c1
          have C := C.keep hb7
          have hC0 := C.c0
          have hC1 := C.c1
          have V := V.keep hb7
          have hV0 := V.c0
          have hV1 := V.c1
          have t1 := t1.keep hb7
          have t2 := t2.keep hb7
          have v1 := v1.keep hb7
          have v2 := v2.keep hb7
          have hs6 := hs6.keep hb7
          have hd6 := hd6.keep hb7
          have hb := below_t hb hb7
          clear hb7
          go_wp2_with fail
          refine (RefAEqual_is s d s d true Hself.out _ _ _ _ _ _ _ _ _ t1 t2 hs6 hd6).mono ?_
          rintro e8 w8 ⟨rfl, hb8⟩
          have A := A.keep hb8
          have hA0 := A.c0
          have hA1 := A.c1
          have V := V.keep hb8
          have hV0 := V.c0
          have hV1 := V.c1
          have v1 := v1.keep hb8
          have v2 := v2.keep hb8
          have hs6 := hs6.keep hb8
          have hd6 := hd6.keep hb8
          have hb := below_t hb hb8
          clear hb8
          have A' := A.keep (below_alloc w8 (.cells #[.int .i64 (d.length : Int)] 3))
          have hA'0 := A'.c0
          have hA'1 := A'.c1
          go_wp2_with fail
          refine (RefAEqual_one d true Hself2.out _ _ _ _ _ _ _ _ _ (v1.keep (below_alloc _ _)) (v2.keep (below_alloc _ _)) (Ints.lit _ _ [(d.length : Int)] _ rfl Hlen.out (by simp)) (hd6.keep (below_alloc _ _))).mono ?_
          rintro e w' ⟨rfl, hb9⟩
          go_wp2_with fail
          go_ret
          exact ⟨rfl, below_t hb (below_1 hb9)⟩

theorem ArrayKeeps_law (p : Option Addr) (c : Nat) (s : List Int) (q : Option Addr) (f : Nat) (d : List Int) (w : World) (h : Ints w p s) (h' : Ints w q d) :
    Calls Try.prog 11 #[.agg #[.slice p s.length c, .slice q d.length f]] w fun e w' => e = .returned (.bool true) ∧ Below w.heap.size w w' := by
  cases hs : (smallS s && (arrS s d == 0)) with
  | false =>
    have Hs := Lib.hid hs
    clear hs
    go_enter Try.func11, Try.ntmps11
    go_wp2_with fail
    refine (awake05 _).mono ?_
    rintro e1 w1 ⟨rfl, hb1⟩
    have A := (At2.new w _ (.slice p s.length c) (.slice q d.length f) 43 rfl).keep hb1
    have hA0 := A.c0
    have hA1 := A.c1
    have hb := below_1 hb1
    clear hb1
    go_wp2_with fail
    refine (RefASmall_is s d false Hs.out _ _ _ _ _ (h.keep hb) (h'.keep hb)).mono ?_
    rintro e1 w1a ⟨rfl, hb2⟩
    have A := A.keep hb2
    have hA0 := A.c0
    have hA1 := A.c1
    have hb := below_t hb hb2
    clear hb2
    go_wp2_with fail
    refine (awake05 _).mono ?_
    rintro e w' ⟨rfl, hb3⟩
    go_wp2_with fail
    go_ret
    exact ⟨rfl, below_t hb hb3⟩
  | true =>
    have hs' := hs
    rw [Bool.and_eq_true] at hs'
    have ha : arrS s d = 0 := by simpa using hs'.2
    obtain ⟨hz, hc⟩ := arrS_right ha
    have hl := (shapeS_zero.1 hz).len
    have hb := (cellsS_bd s).2
    exact ArrayKeeps_yes p c s q f d w h h' hs (by omega) (by omega) ha
end Go.Proofs.Ythkfjdhakbjllaa
