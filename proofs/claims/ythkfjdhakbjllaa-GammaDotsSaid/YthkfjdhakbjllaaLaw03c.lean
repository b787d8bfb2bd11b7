/- The law GammaDots of layer 3, walked. -/
import Derived.Test.YthkfjdhakbjllaaLaw03b
namespace Go.Proofs.Ythkfjdhakbjllaa
open Go.RowKit Go.Shelf
set_option linter.unusedVariables false

structure Ints16 (w : World) (p : Option Addr) (xs : List Int) : Prop where
  cells : Cells w p (xs.map (.int .i16))
  i16 : ∀ x ∈ xs, -32768 ≤ x ∧ x ≤ 32767
  small : xs.length ≤ 9223372036854775807

theorem Ints16.keep {w w' : World} {p : Option Addr} {xs : List Int} (h : Ints16 w p xs) (hb : Below w.heap.size w w') : Ints16 w' p xs := ⟨h.cells.keep hb, h.i16, h.small⟩
theorem Ints16.at {w : World} {p : Option Addr} {xs : List Int} (h : Ints16 w p xs) {k : Nat} (hk : k < xs.length) :
    ∃ b off, p = some ⟨b, off, none⟩ ∧ b < w.heap.size ∧ w.cell? ⟨b, off + k, none⟩ = some (.int .i16 (nth xs k)) := by
  rcases h.cells with h' | ⟨b, off, hp, hlt, hc⟩
  · simp at h'
    subst h'
    simp at hk
  · exact ⟨b, off, hp, hlt, hc k _ (by simp [nth_get? hk])⟩

theorem IsRow.ints16 {w : World} {a : Option Addr} {len cap : Nat} {zs : List Int} (h : IsRow .i16 w a len cap zs) : ∃ xs : List Int, xs.length = len ∧ Ints16 w a xs := by
  rcases h with ⟨rfl, rfl, rfl, rfl⟩ | ⟨x, rfl, hl, hm, hz, hc, hw⟩
  · exact ⟨[], rfl, .inl rfl, by simp, by simp⟩
  · have hlen : (zs.take len).length = len := by simp; omega
    refine ⟨zs.take len, hlen, ?_, fun y hy => bounds_i16 (hw y (List.mem_of_mem_take hy)), by rw [hlen]; unfold maxLen at hm; omega⟩
    by_cases h0 : len = 0
    · subst h0
      exact .inl (by simp)
    · obtain ⟨b, off, spot⟩ := x
      have hc0 := hc 0 (by omega)
      have hspot : spot = none := by simpa [Addr.add] using World.cell?_spot hc0
      subst hspot
      have hblt := World.block_lt_of_cell? w _ hc0
      refine .inr ⟨b, off, rfl, by simpa [Addr.add] using hblt, fun i u hu => ?_⟩
      rw [List.getElem?_map, List.getElem?_take] at hu
      split at hu
      · have hi : i < zs.length := by omega
        have := hc i hi
        rw [List.getElem?_eq_getElem hi] at hu
        simp at hu
        subst hu
        rw [Addr.add_lit] at this
        simpa [hi] using this
      · simp at hu

theorem wide_any (a : Option Addr) (c : Nat) (xs : List Int) (w : World) (h : Ints16 w a xs) (hl : xs.length ≤ 100) :
    Calls Try.prog 28 #[.slice a xs.length c] w fun e w' => (∃ p c', e = .returned (.slice p xs.length c') ∧ Ints w' p xs) ∧ Below w.heap.size w w' := by
  go_enter Try.func28, Try.ntmps28
  go_wp2
  go_loopw [3, 4] (fun o i wr => ∃ (k : Nat), k ≤ xs.length ∧ i = .int .i64 k ∧ wr.ownsRow w.heap.size 3 1 o k ((xs.take k).map (.int .i64)) ∧ Below w.heap.size w wr) (fun _ i _ => xs.length - (intOf i).toNat)
  case atStart => exact ⟨0, Nat.zero_le _, rfl, by simpa using World.ownsRow_nil _ _ _ _, Below.refl _ _⟩
  case round =>
    obtain ⟨k, hk, rfl, hown, hbr⟩ := hrel
    have hbs := hbr.size
    by_cases hlt : k < xs.length
    · obtain ⟨b1, o1, rfl, -, hc⟩ := (h.keep hbr).at hlt
      have Htk := Lib.hid (take_nth hlt)
      obtain ⟨hx1, hx2⟩ := h.i16 _ (nth_mem hlt)
      have hi1 : (k : Int) < (xs.length : Int) := by omega
      go_wp2_with (at_builtin; refine append_ints rfl _ _ rfl w.heap.size _ k _ rfl (hown.alloc _) (some ⟨wr.heap.size, 0, none⟩) 1 [nth xs k] rfl (cells_one _ _ _ _ rfl) (by simp; omega) (by simp; omega) ?_; intro v' w1 hown1 hg1)
      have hb1 := below_append hbr hown hg1
      go_roundw
      case rel => exact ⟨k + 1, by omega, by go_num, by rw [Htk.out, List.map_append]; exact hown1, hb1⟩
      case measure => simp [intOf]; omega
    · go_wp2
      obtain ⟨p, c', rfl, hnew⟩ := row_new hown
      rw [List.take_of_length_le (by omega)] at hnew ⊢
      go_ret
      refine ⟨⟨p, c', ?_, hnew.ints (fun x hx => ?_) (by omega)⟩, hbr⟩
      · simp
      · have := h.i16 x hx
        exact ⟨by omega, by omega⟩

theorem RefDot_is (xs ys : List Int) (n : Int) (hn : dotW xs ys 0 = n) (p q : Option Addr) (c d : Nat) (w : World) (h : Ints w p xs) (h' : Ints w q ys) :
    Calls Try.prog 30 #[.slice p xs.length c, .slice q ys.length d] w fun e w' => e = .returned (.int .i64 n) ∧ Below w.heap.size w w' :=
  (RefDot_any p q c d xs ys w h h').mono fun e w' ⟨he, n, hw⟩ => ⟨by rw [he, hn], hw ▸ below_drewN _ _ _⟩

theorem RefStrides_is (s : List Int) (hs : strideS s = strs s) (hl : s.length ≤ 16) (a : Option Addr) (c : Nat) (w : World) (h : Ints w a s) :
    Calls Try.prog 31 #[.slice a s.length c] w fun e w' => (∃ p c', e = .returned (.slice p (strs s).length c') ∧ Ints w' p (strs s)) ∧ Below w.heap.size w w' := by
  have hi := strideS_i64 s
  have := RefStrides_any a c s w h
  rw [hs] at this hi
  refine this.mono ?_
  rintro e w' ⟨⟨p, c', he, hnew⟩, hb⟩
  exact ⟨⟨p, c', he, hnew.ints hi (by rw [strs_len]; omega)⟩, hb⟩

set_option maxRecDepth 100000 in
set_option maxHeartbeats 4000000 in
theorem GammaDots_law (p : Option Addr) (c : Nat) (a : List Int) (q : Option Addr) (d : Nat) (b : List Int) (r : Option Addr) (f : Nat) (s : List Int) (n : Int) (w : World) (ha : Ints16 w p a) (hb : Ints16 w q b) (h : Ints w r s) (hn : 0 ≤ n ∧ n ≤ 65535) :
    Calls Try.prog 4 #[.slice p a.length c, .slice q b.length d, .slice r s.length f, .int .u16 n] w fun e w' => e = .returned (.bool true) ∧ Below w.heap.size w w' := by
  obtain ⟨hn1, hn2⟩ := hn
  have hsa := ha.small
  have hsb := hb.small
  by_cases hla : 100 < a.length
  · go_enter Try.func4, Try.ntmps4
    go_wp2_with fail
    refine (awake03 _).mono ?_
    rintro e w' ⟨rfl, hb1⟩
    go_wp2_with fail
    refine (awake03 _).mono ?_
    rintro e w' ⟨rfl, hb2⟩
    go_wp2_with fail
    go_ret
    exact ⟨rfl, below_t hb1 hb2⟩
  by_cases hlb : 100 < b.length
  · go_enter Try.func4, Try.ntmps4
    go_wp2_with fail
    refine (awake03 _).mono ?_
    rintro e w' ⟨rfl, hb1⟩
    go_wp2_with fail
    refine (awake03 _).mono ?_
    rintro e w' ⟨rfl, hb2⟩
    go_wp2_with fail
    go_ret
    exact ⟨rfl, below_t hb1 hb2⟩
  by_cases hz : shapeS s = 0
  · have hl := (shapeS_zero.1 hz).len
    cases hI : inS s n with
    | true =>
      have HI := Lib.hid hI
      obtain ⟨hs, hp, -, hb65, h1, h2, hst⟩ := inS_shape hI
      obtain ⟨hv, ho⟩ := unoff_off s hp n h1 h2
      have Hst := Lib.hid hst
      have Hd := Lib.hid ((dot_small hs hv).1.trans ho)
      clear hI hs hp hb65 h1 h2 hst hv ho
      go_enter Try.func4, Try.ntmps4
      go_wp2_with fail
      refine (awake03 _).mono ?_
      rintro e w' ⟨rfl, hb1⟩
      go_wp2_with fail
      refine (RefCheck_is _ _ hz _ _ _ (h.keep hb1)).mono ?_
      rintro e w' ⟨rfl, rfl⟩
      go_wp2_with fail
      refine (wide_any _ _ _ _ (ha.keep hb1) (by omega)).mono ?_
      rintro e w' ⟨⟨x, cx, rfl, hx⟩, hb2⟩
      have hb2 := below_t hb1 hb2
      clear hb1
      go_wp2_with fail
      refine (wide_any _ _ _ _ (hb.keep hb2) (by omega)).mono ?_
      rintro e w' ⟨⟨y, cy, rfl, hy⟩, hb3⟩
      have hx := hx.keep hb3
      have hb3 := below_t hb2 hb3
      clear hb2
      go_wp2_with fail
      refine (Dot_is a b _ rfl _ _ _ _ _ hx hy).mono ?_
      rintro e w' ⟨rfl, hb4⟩
      have hx := hx.keep hb4
      have hy := hy.keep hb4
      have hb4 := below_t hb3 hb4
      clear hb3
      go_wp2_with fail
      refine (RefDot_is a b _ rfl _ _ _ _ _ hx hy).mono ?_
      rintro e w' ⟨rfl, hb5⟩
      have hx := hx.keep hb5
      have hy := hy.keep hb5
      have hb5 := below_t hb4 hb5
      clear hb4
      go_wp2_with fail
      refine (Dot_is b a (dotW a b 0) (dotW_comm _ _ _) _ _ _ _ _ hy hx).mono ?_
      rintro e w' ⟨rfl, hb6⟩
      have hx := hx.keep hb6
      have hy := hy.keep hb6
      have hb6 := below_t hb5 hb6
      clear hb5
      go_wp2_with fail
      refine (Dot_is a b _ rfl _ _ _ _ _ hx hy).mono ?_
      rintro e w' ⟨rfl, hb7⟩
      have hb7 := below_t hb6 hb7
      clear hb6 hx hy
      go_wp2_with fail
      refine (Index_un s n HI.out _ _ _ (h.keep hb7)).mono ?_
      rintro e w8 ⟨⟨j, cj, rfl, hi⟩, hb8⟩
      have hb8 := below_t hb7 hb8
      clear hb7
      go_wp2_with fail
      refine (RefStrides_is s Hst.out hl _ _ _ (h.keep hb8)).mono ?_
      rintro e w' ⟨⟨t, ct, rfl, ht⟩, hb9⟩
      have hi := hi.keep hb9
      have hb9 := below_t hb8 hb9
      clear hb8
      go_wp2_with fail
      refine (Dot_is (strs s) (unoff s n) n Hd.out _ _ _ _ _ ht hi).mono ?_
      rintro e w' ⟨rfl, hb10⟩
      go_wp2_with fail
      go_ret
      exact ⟨rfl, below_t hb9 hb10⟩
    | false =>
      have HI := Lib.hid hI
      have He : Hid (ixS s n = []) := by unfold ixS; exact if_neg (by simp [hI])
      clear hI
      go_enter Try.func4, Try.ntmps4
      go_wp2_with fail
      refine (awake03 _).mono ?_
      rintro e w' ⟨rfl, hb1⟩
      go_wp2_with fail
      refine (RefCheck_is _ _ hz _ _ _ (h.keep hb1)).mono ?_
      rintro e w' ⟨rfl, rfl⟩
      go_wp2_with fail
      refine (wide_any _ _ _ _ (ha.keep hb1) (by omega)).mono ?_
      rintro e w' ⟨⟨x, cx, rfl, hx⟩, hb2⟩
      have hb2 := below_t hb1 hb2
      clear hb1
      go_wp2_with fail
      refine (wide_any _ _ _ _ (hb.keep hb2) (by omega)).mono ?_
      rintro e w' ⟨⟨y, cy, rfl, hy⟩, hb3⟩
      have hx := hx.keep hb3
      have hb3 := below_t hb2 hb3
      clear hb2
      go_wp2_with fail
      refine (Dot_is a b _ rfl _ _ _ _ _ hx hy).mono ?_
      rintro e w' ⟨rfl, hb4⟩
      have hx := hx.keep hb4
      have hy := hy.keep hb4
      have hb4 := below_t hb3 hb4
      clear hb3
      go_wp2_with fail
      refine (RefDot_is a b _ rfl _ _ _ _ _ hx hy).mono ?_
      rintro e w' ⟨rfl, hb5⟩
      have hx := hx.keep hb5
      have hy := hy.keep hb5
      have hb5 := below_t hb4 hb5
      clear hb4
      go_wp2_with fail
      refine (Dot_is b a (dotW a b 0) (dotW_comm _ _ _) _ _ _ _ _ hy hx).mono ?_
      rintro e w' ⟨rfl, hb6⟩
      have hx := hx.keep hb6
      have hy := hy.keep hb6
      have hb6 := below_t hb5 hb6
      clear hb5
      go_wp2_with fail
      refine (Dot_is a b _ rfl _ _ _ _ _ hx hy).mono ?_
      rintro e w' ⟨rfl, hb7⟩
      have hb7 := below_t hb6 hb7
      clear hb6 hx hy
      go_wp2_with fail
      refine (Index_ints s n _ _ _ (h.keep hb7)).mono ?_
      rw [He.out, HI.out]
      rintro e w8 ⟨⟨j, cj, rfl, hi⟩, hb8⟩
      have hb8 := below_t hb7 hb8
      go_wp2_with fail
      go_ret
      exact ⟨rfl, hb8⟩
  · have hzb : (shapeS s != 0) = true := by simp [hz]
    go_enter Try.func4, Try.ntmps4
    go_wp2_with fail
    refine (awake03 _).mono ?_
    rintro e w' ⟨rfl, hb1⟩
    go_wp2_with fail
    refine (RefCheck_any _ _ _ _ (h.keep hb1)).mono ?_
    rintro e w' ⟨rfl, rfl⟩
    go_wp2_with fail
    refine (awake03 _).mono ?_
    rintro e w' ⟨rfl, hb2⟩
    go_wp2_with fail
    go_ret
    exact ⟨rfl, below_t hb1 hb2⟩
end Go.Proofs.Ythkfjdhakbjllaa
