/- The law ArrayTabulates, walked: it returns true at all arguments and writes nothing that was there. No condition. -/
import Derived.Test.YthkfjdhakbjllaaLaw05f
namespace Go.Proofs.Ythkfjdhakbjllaa
open Go.RowKit Go.Shelf
set_option linter.unusedVariables false
set_option linter.unusedSimpArgs false

theorem Tabulate_no_is (fv : Value) (s : List Int) (n : Int) (hn : shapeS s = n) (h0 : n ≠ 0) (p : Option Addr) (c : Nat) (w : World) (hp : Ints w p s) (hf : ∃ gf first lb, fv = .func (.func gf) first lb) :
    Calls Try.prog 45 #[.slice p s.length c, fv] w fun e w' => e = .returned (.tuple #[.agg #[.slice none 0 0, .slice none 0 0], .int .i64 n]) ∧ Below w.heap.size w w' := by
  subst hn
  exact Tabulate_no fv s p c w h0 hp hf

theorem range_nth (d : List Int) (n : Nat) (hn : d.length = n) : (List.range n).map (fun k => nth d k) = d := by
  subst hn
  refine ext_nth (by simp) fun j hj => ?_
  simp at hj
  simp [nth, List.getD_eq_getElem?_getD, hj]

theorem arrS_right {s d : List Int} (h : arrS s d = 0) : shapeS s = 0 ∧ cellsS s = (d.length : Int) := by
  unfold arrS at h
  by_cases hz : shapeS s = 0
  · rw [if_pos hz] at h
    by_cases hc : (d.length : Int) = cellsS s
    · exact ⟨hz, hc.symm⟩
    · rw [if_neg hc] at h
      simp at h
  · rw [if_neg hz] at h
    exact absurd h hz

set_option maxHeartbeats 1000000 in
theorem ArrayTabulates_bad (p : Option Addr) (c : Nat) (s : List Int) (q : Option Addr) (f : Nat) (d : List Int) (w : World) (h : Ints w p s) (h' : Ints w q d) (hf : fewS s d 300 = true) (hl : ¬ 6 < s.length) (hz : shapeS s ≠ 0) :
    Calls Try.prog 10 #[.agg #[.slice p s.length c, .slice q d.length f]] w fun e w' => e = .returned (.bool true) ∧ Below w.heap.size w w' := by
  have Hf := Lib.hid hf
  obtain ⟨n, hn⟩ : ∃ n, shapeS s = n := ⟨_, rfl⟩
  rw [hn] at hz
  have hnb : (n != 0) = true := by simp [hz]
  have hnn : (n == n) = true := by simp
  have Hn := Lib.hid hn
  have Hz := Lib.hid hz
  clear hf hn hz
  go_enter Try.func10, Try.ntmps10
  go_wp2_with fail
  refine (awake05 _).mono ?_
  rintro e w' ⟨rfl, hb1⟩
  have A := (At2.new w _ (.slice p s.length c) (.slice q d.length f) 43 rfl).keep hb1
  have hA0 := A.c0
  have hA1 := A.c1
  have hb := below_1 hb1
  clear hb1
  go_wp2_with fail
  refine (RefFew_is s d 300 true Hf.out _ _ _ _ _ (h.keep hb) (h'.keep hb)).mono ?_
  rintro e2 w2 ⟨rfl, hb2⟩
  have A := A.keep hb2
  have hA0 := A.c0
  have hA1 := A.c1
  have hb := below_t hb hb2
  clear hb2
  have hbc := below_alloc w2 (.cells #[.slice p s.length c, .slice q d.length f, .int .i64 0, .bool false] 61)
  have C : Ctr w2.heap.size p q c f s d 0 (w2.alloc (.cells #[.slice p s.length c, .slice q d.length f, .int .i64 0, .bool false] 61)) := Own.made _ _ _ _ rfl
  have hp2 := (h.keep hb).clear (Nat.le_refl w2.heap.size)
  have hq2 := (h'.keep hb).clear (Nat.le_refl w2.heap.size)
  have hgw : w.heap.size ≤ w2.heap.size := hb.size
  have A := A.keep hbc
  have hA0 := A.c0
  have hA1 := A.c1
  have hb := below_t hb hbc
  clear hbc
  have hg2 := C.lt
  go_wp2_with fail
  refine (Tabulate_no_is _ s n Hn.out Hz.out _ _ _ (h.keep hb) ⟨_, _, _, rfl⟩).mono ?_
  rintro e3 w3 ⟨rfl, hb3⟩
  have hb3 := below_t hb3 (below_alloc _ (.cells #[.slice none 0 0, .slice none 0 0] 43))
  have B := At2.new w3 _ (.slice none 0 0) (.slice none 0 0) 43 rfl
  have C : Ctr w2.heap.size p q c f s d 0 _ := Own.keep C hb3 hg2
  have hC2 := C.cell (i := 2) rfl
  have A := A.keep hb3
  have hA0 := A.c0
  have hA1 := A.c1
  have hb := below_t hb hb3
  clear hb3
  have hB0 := B.c0
  have hB1 := B.c1
  go_wp2_with fail
  refine (RefCheck_is s n Hn.out _ _ _ (h.keep hb)).mono ?_
  rintro e w' ⟨rfl, rfl⟩
  go_wp2_with fail
  refine (RefCheck_is s n Hn.out _ _ _ (h.keep hb)).mono ?_
  rintro e w' ⟨rfl, rfl⟩
  go_wp2_with fail
  refine (RefAEqual_is [] [] [] [] true (by decide) _ _ _ _ _ _ _ _ _ (Ints.nil _) (Ints.nil _) (Ints.nil _) (Ints.nil _)).mono ?_
  rintro e w' ⟨rfl, hb4⟩
  go_wp2_with fail
  go_ret
  exact ⟨rfl, below_t hb hb4⟩

set_option maxHeartbeats 1000000 in
theorem ArrayTabulates_large (p : Option Addr) (c : Nat) (s : List Int) (q : Option Addr) (f : Nat) (d : List Int) (w : World) (h : Ints w p s) (h' : Ints w q d) (hf : fewS s d 300 = true) (hl : ¬ 6 < s.length) (hz : shapeS s = 0) (hs : smallS s = false) :
    Calls Try.prog 10 #[.agg #[.slice p s.length c, .slice q d.length f]] w fun e w' => e = .returned (.bool true) ∧ Below w.heap.size w w' := by
  have Hf := Lib.hid hf
  obtain ⟨n, hn⟩ : ∃ n : Nat, cellsS s = (n : Int) := ⟨(cellsS s).toNat, by have := (cellsS_bd s).1; omega⟩
  have Hn := Lib.hid hn
  have Hz := Lib.hid hz
  have Hs := Lib.hid hs
  clear hf hn hz hs
  go_enter Try.func10, Try.ntmps10
  go_wp2_with fail
  refine (awake05 _).mono ?_
  rintro e w' ⟨rfl, hb1⟩
  have A := (At2.new w _ (.slice p s.length c) (.slice q d.length f) 43 rfl).keep hb1
  have hA0 := A.c0
  have hA1 := A.c1
  have hb := below_1 hb1
  clear hb1
  go_wp2_with fail
  refine (RefFew_is s d 300 true Hf.out _ _ _ _ _ (h.keep hb) (h'.keep hb)).mono ?_
  rintro e2 w2 ⟨rfl, hb2⟩
  have A := A.keep hb2
  have hA0 := A.c0
  have hA1 := A.c1
  have hb := below_t hb hb2
  clear hb2
  have hbc := below_alloc w2 (.cells #[.slice p s.length c, .slice q d.length f, .int .i64 0, .bool false] 61)
  have C : Ctr w2.heap.size p q c f s d 0 (w2.alloc (.cells #[.slice p s.length c, .slice q d.length f, .int .i64 0, .bool false] 61)) := Own.made _ _ _ _ rfl
  have hp2 := (h.keep hb).clear (Nat.le_refl w2.heap.size)
  have hq2 := (h'.keep hb).clear (Nat.le_refl w2.heap.size)
  have hgw : w.heap.size ≤ w2.heap.size := hb.size
  have A2 := A.lt
  have A := A.keep hbc
  have hA0 := A.c0
  have hA1 := A.c1
  have hb := below_t hb hbc
  clear hbc
  have hg2 := C.lt
  go_wp2_with fail
  refine (Tabulate_yes 46 #[.pointer (some ⟨w2.heap.size, 0, none⟩)] #[] (some w2.heap.size) _ _ s n (enters_of Try.func46 (by kernel_rfl) rfl) _ _ _ (call_gives2 w2.heap.size p q c f s d n _ Hz.out Hn.out hg2 (h.keep hb) (h'.keep hb) hp2 hq2) Hz.out Hn.out (by intro r hr; cases hr; exact hg2) ⟨C, fun _ _ _ => rfl⟩ (h.keep hb)).mono ?_
  rintro e4 w4 ⟨⟨p', c', q', d', rfl, hi1, hi2⟩, ⟨C4, hW⟩, hch⟩
  have hAg : w.heap.size < w2.heap.size := Nat.lt_of_lt_of_le (by show w.heap.size < _; exact A2) (Nat.le_refl _)
  have hb4 : Below w.heap.size w w4 := hb.trans (hch.below hb.size (by intro k hk; cases hk; omega))
  have A4 : At2 w4 w.heap.size (.slice p s.length c) (.slice q d.length f) := ⟨Nat.lt_of_lt_of_le A.lt hch.size, (hch.cell (p := ⟨w.heap.size, 0, none⟩) A.lt (by intro h; have h : w.heap.size = w2.heap.size := Option.some.inj h; have := A2; omega)).trans A.c0, (hch.cell (p := ⟨w.heap.size, 1, none⟩) A.lt (by intro h; have h : w.heap.size = w2.heap.size := Option.some.inj h; have := A2; omega)).trans A.c1⟩
  have hs4 : Ints w4 p s := (h.keep hb).but hp2 fun j h1 h2 => hch.block j h1 (by intro h; cases h; exact h2 rfl)
  have hd4 : Ints w4 q d := (h'.keep hb).but hq2 fun j h1 h2 => hch.block j h1 (by intro h; cases h; exact h2 rfl)
  have B := At2.new w4 _ (.slice p' s.length c') (.slice q' n d') 43 rfl
  have hbb := below_alloc w4 (.cells #[.slice p' s.length c', .slice q' n d'] 43)
  have hg4 := C4.lt
  have hbbs := hbb.size
  have C5 : Ctr w2.heap.size p q c f s d n _ := Own.keep C4 hbb hg4
  clear hb A C hch hW hA0 hA1
  have A := A4
  have hb := hb4
  have A := A.keep hbb
  have hA0 := A.c0
  have hA1 := A.c1
  have hs4 := hs4.keep hbb
  have hd4 := hd4.keep hbb
  have hi1 := hi1.keep hbb
  have hi2 := hi2.keep hbb
  have hb := below_t hb hbb
  clear hbb
  go_wp2_with fail
  refine (RefCheck_is s 0 Hz.out _ _ _ hs4).mono ?_
  rintro e w' ⟨rfl, rfl⟩
  go_wp2_with fail
  refine (RefSmall2_is s false Hs.out _ _ _ hs4).mono ?_
  rintro e w' ⟨rfl, rfl⟩
  go_wp2_with fail
  go_ret
  exact ⟨rfl, hb⟩

set_option maxHeartbeats 1000000 in
theorem ArrayTabulates_other (p : Option Addr) (c : Nat) (s : List Int) (q : Option Addr) (f : Nat) (d : List Int) (w : World) (h : Ints w p s) (h' : Ints w q d) (hf : fewS s d 300 = true) (hl : ¬ 6 < s.length) (hz : shapeS s = 0) (hs : smallS s = true) (ha : arrS s d ≠ 0) :
    Calls Try.prog 10 #[.agg #[.slice p s.length c, .slice q d.length f]] w fun e w' => e = .returned (.bool true) ∧ Below w.heap.size w w' := by
  have Hf := Lib.hid hf
  obtain ⟨n, hn⟩ : ∃ n : Nat, cellsS s = (n : Int) := ⟨(cellsS s).toNat, by have := (cellsS_bd s).1; omega⟩
  obtain ⟨z, hze⟩ : ∃ z, arrS s d = z := ⟨_, rfl⟩
  rw [hze] at ha
  have hzb : (z != 0) = true := by simp [ha]
  have Hze := Lib.hid hze
  have Hn := Lib.hid hn
  have Hz := Lib.hid hz
  have Hs := Lib.hid hs
  clear hf hn hz hs hze ha
  go_enter Try.func10, Try.ntmps10
  go_wp2_with fail
  refine (awake05 _).mono ?_
  rintro e w' ⟨rfl, hb1⟩
  have A := (At2.new w _ (.slice p s.length c) (.slice q d.length f) 43 rfl).keep hb1
  have hA0 := A.c0
  have hA1 := A.c1
  have hb := below_1 hb1
  clear hb1
  go_wp2_with fail
  refine (RefFew_is s d 300 true Hf.out _ _ _ _ _ (h.keep hb) (h'.keep hb)).mono ?_
  rintro e2 w2 ⟨rfl, hb2⟩
  have A := A.keep hb2
  have hA0 := A.c0
  have hA1 := A.c1
  have hb := below_t hb hb2
  clear hb2
  have hbc := below_alloc w2 (.cells #[.slice p s.length c, .slice q d.length f, .int .i64 0, .bool false] 61)
  have C : Ctr w2.heap.size p q c f s d 0 (w2.alloc (.cells #[.slice p s.length c, .slice q d.length f, .int .i64 0, .bool false] 61)) := Own.made _ _ _ _ rfl
  have hp2 := (h.keep hb).clear (Nat.le_refl w2.heap.size)
  have hq2 := (h'.keep hb).clear (Nat.le_refl w2.heap.size)
  have hgw : w.heap.size ≤ w2.heap.size := hb.size
  have A2 := A.lt
  have A := A.keep hbc
  have hA0 := A.c0
  have hA1 := A.c1
  have hb := below_t hb hbc
  clear hbc
  have hg2 := C.lt
  go_wp2_with fail
  refine (Tabulate_yes 46 #[.pointer (some ⟨w2.heap.size, 0, none⟩)] #[] (some w2.heap.size) _ _ s n (enters_of Try.func46 (by kernel_rfl) rfl) _ _ _ (call_gives2 w2.heap.size p q c f s d n _ Hz.out Hn.out hg2 (h.keep hb) (h'.keep hb) hp2 hq2) Hz.out Hn.out (by intro r hr; cases hr; exact hg2) ⟨C, fun _ _ _ => rfl⟩ (h.keep hb)).mono ?_
  rintro e4 w4 ⟨⟨p', c', q', d', rfl, hi1, hi2⟩, ⟨C4, hW⟩, hch⟩
  have hAg : w.heap.size < w2.heap.size := Nat.lt_of_lt_of_le (by show w.heap.size < _; exact A2) (Nat.le_refl _)
  have hb4 : Below w.heap.size w w4 := hb.trans (hch.below hb.size (by intro k hk; cases hk; omega))
  have A4 : At2 w4 w.heap.size (.slice p s.length c) (.slice q d.length f) := ⟨Nat.lt_of_lt_of_le A.lt hch.size, (hch.cell (p := ⟨w.heap.size, 0, none⟩) A.lt (by intro h; have h : w.heap.size = w2.heap.size := Option.some.inj h; have := A2; omega)).trans A.c0, (hch.cell (p := ⟨w.heap.size, 1, none⟩) A.lt (by intro h; have h : w.heap.size = w2.heap.size := Option.some.inj h; have := A2; omega)).trans A.c1⟩
  have hs4 : Ints w4 p s := (h.keep hb).but hp2 fun j h1 h2 => hch.block j h1 (by intro h; cases h; exact h2 rfl)
  have hd4 : Ints w4 q d := (h'.keep hb).but hq2 fun j h1 h2 => hch.block j h1 (by intro h; cases h; exact h2 rfl)
  have B := At2.new w4 _ (.slice p' s.length c') (.slice q' n d') 43 rfl
  have hbb := below_alloc w4 (.cells #[.slice p' s.length c', .slice q' n d'] 43)
  have hg4 := C4.lt
  have hbbs := hbb.size
  have C5 : Ctr w2.heap.size p q c f s d n _ := Own.keep C4 hbb hg4
  clear hb A C hch hW hA0 hA1
  have A := A4
  have hb := hb4
  have A := A.keep hbb
  have hA0 := A.c0
  have hA1 := A.c1
  have hs4 := hs4.keep hbb
  have hd4 := hd4.keep hbb
  have hi1 := hi1.keep hbb
  have hi2 := hi2.keep hbb
  have hb := below_t hb hbb
  clear hbb
  go_wp2_with fail
  refine (RefCheck_is s 0 Hz.out _ _ _ hs4).mono ?_
  rintro e w' ⟨rfl, rfl⟩
  go_wp2_with fail
  refine (RefSmall2_is s true Hs.out _ _ _ hs4).mono ?_
  rintro e w' ⟨rfl, rfl⟩
  go_wp2_with fail
  refine (RefACheck_is s d z Hze.out _ _ _ _ _ hs4 hd4).mono ?_
  rintro e w' ⟨rfl, hb6⟩
  go_wp2_with fail
  go_ret
  exact ⟨rfl, below_t hb hb6⟩

set_option maxRecDepth 100000 in
set_option maxHeartbeats 2000000 in
theorem ArrayTabulates_right (p : Option Addr) (c : Nat) (s : List Int) (q : Option Addr) (f : Nat) (d : List Int) (w : World) (h : Ints w p s) (h' : Ints w q d) (hf : fewS s d 300 = true) (hl : ¬ 6 < s.length) (hs : smallS s = true) (ha : arrS s d = 0) :
    Calls Try.prog 10 #[.agg #[.slice p s.length c, .slice q d.length f]] w fun e w' => e = .returned (.bool true) ∧ Below w.heap.size w w' := by
  have Hf := Lib.hid hf
  obtain ⟨hz, hn⟩ := arrS_right ha
  have hnn : ((d.length : Int) == (d.length : Int)) = true := by simp
  have Hself := Lib.hid (aeqS_self s d)
  have Hr := Lib.hid (range_nth d d.length rfl)
  have Hze := Lib.hid ha
  have Hn := Lib.hid hn
  have Hz := Lib.hid hz
  have Hs := Lib.hid hs
  clear hf hn hz hs ha
  go_enter Try.func10, Try.ntmps10
  go_wp2_with fail
  refine (awake05 _).mono ?_
  rintro e w' ⟨rfl, hb1⟩
  have A := (At2.new w _ (.slice p s.length c) (.slice q d.length f) 43 rfl).keep hb1
  have hA0 := A.c0
  have hA1 := A.c1
  have hb := below_1 hb1
  clear hb1
  go_wp2_with fail
  refine (RefFew_is s d 300 true Hf.out _ _ _ _ _ (h.keep hb) (h'.keep hb)).mono ?_
  rintro e2 w2 ⟨rfl, hb2⟩
  have A := A.keep hb2
  have hA0 := A.c0
  have hA1 := A.c1
  have hb := below_t hb hb2
  clear hb2
  have hbc := below_alloc w2 (.cells #[.slice p s.length c, .slice q d.length f, .int .i64 0, .bool false] 61)
  have C : Ctr w2.heap.size p q c f s d 0 (w2.alloc (.cells #[.slice p s.length c, .slice q d.length f, .int .i64 0, .bool false] 61)) := Own.made _ _ _ _ rfl
  have hp2 := (h.keep hb).clear (Nat.le_refl w2.heap.size)
  have hq2 := (h'.keep hb).clear (Nat.le_refl w2.heap.size)
  have hgw : w.heap.size ≤ w2.heap.size := hb.size
  have A2 := A.lt
  have A := A.keep hbc
  have hA0 := A.c0
  have hA1 := A.c1
  have hb := below_t hb hbc
  clear hbc
  have hg2 := C.lt
  go_wp2_with fail
  refine (Tabulate_yes 46 #[.pointer (some ⟨w2.heap.size, 0, none⟩)] #[] (some w2.heap.size) _ _ s d.length (enters_of Try.func46 (by kernel_rfl) rfl) _ _ _ (call_gives2 w2.heap.size p q c f s d d.length _ Hz.out Hn.out hg2 (h.keep hb) (h'.keep hb) hp2 hq2) Hz.out Hn.out (by intro r hr; cases hr; exact hg2) ⟨C, fun _ _ _ => rfl⟩ (h.keep hb)).mono ?_
  rw [Hr.out]
  rintro e4 w4 ⟨⟨p', c', q', d', rfl, hi1, hi2⟩, ⟨C4, hW⟩, hch⟩
  have hAg : w.heap.size < w2.heap.size := Nat.lt_of_lt_of_le (by show w.heap.size < _; exact A2) (Nat.le_refl _)
  have hb4 : Below w.heap.size w w4 := hb.trans (hch.below hb.size (by intro k hk; cases hk; omega))
  have A4 : At2 w4 w.heap.size (.slice p s.length c) (.slice q d.length f) := ⟨Nat.lt_of_lt_of_le A.lt hch.size, (hch.cell (p := ⟨w.heap.size, 0, none⟩) A.lt (by intro h; have h : w.heap.size = w2.heap.size := Option.some.inj h; have := A2; omega)).trans A.c0, (hch.cell (p := ⟨w.heap.size, 1, none⟩) A.lt (by intro h; have h : w.heap.size = w2.heap.size := Option.some.inj h; have := A2; omega)).trans A.c1⟩
  have hs4 : Ints w4 p s := (h.keep hb).but hp2 fun j h1 h2 => hch.block j h1 (by intro h; cases h; exact h2 rfl)
  have hd4 : Ints w4 q d := (h'.keep hb).but hq2 fun j h1 h2 => hch.block j h1 (by intro h; cases h; exact h2 rfl)
  have B := At2.new w4 _ (.slice p' s.length c') (.slice q' d.length d') 43 rfl
  have hbb := below_alloc w4 (.cells #[.slice p' s.length c', .slice q' d.length d'] 43)
  have hg4 := C4.lt
  have hbbs := hbb.size
  have C5 : Ctr w2.heap.size p q c f s d d.length _ := Own.keep C4 hbb hg4
  clear hb A C hch hW hA0 hA1
  have A := A4
  have hb := hb4
  have A := A.keep hbb
  have hA0 := A.c0
  have hA1 := A.c1
  have hs4 := hs4.keep hbb
  have hd4 := hd4.keep hbb
  have hi1 := hi1.keep hbb
  have hi2 := hi2.keep hbb
  have hb := below_t hb hbb
  clear hbb
  go_wp2_with fail
  refine (RefCheck_is s 0 Hz.out _ _ _ hs4).mono ?_
  rintro e w' ⟨rfl, rfl⟩
  go_wp2_with fail
  refine (RefSmall2_is s true Hs.out _ _ _ hs4).mono ?_
  rintro e w' ⟨rfl, rfl⟩
  go_wp2_with fail
  refine (RefACheck_is s d 0 Hze.out _ _ _ _ _ hs4 hd4).mono ?_
  rintro e5 w5 ⟨rfl, hb6⟩
  have B := B.keep hb6
  have C5 : Ctr w2.heap.size p q c f s d d.length _ := Own.keep C5 hb6 (Nat.lt_of_lt_of_le hg4 hbbs)
  have A := A.keep hb6
  have hA0 := A.c0
  have hA1 := A.c1
  have hs4 := hs4.keep hb6
  have hd4 := hd4.keep hb6
  have hi1 := hi1.keep hb6
  have hi2 := hi2.keep hb6
  have hb := below_t hb hb6
  clear hb6
  clear hA0 hA1
  go_wp2_with fail
  have hKS : Keeps (fun w' => (w.heap.size < w'.heap.size ∧ w'.cell? ⟨w.heap.size, 0, none⟩ = some (.slice p s.length c) ∧ w'.cell? ⟨w.heap.size, 1, none⟩ = some (.slice q d.length f)) ∧ (w4.heap.size < w'.heap.size ∧ w'.cell? ⟨w4.heap.size, 0, none⟩ = some (.slice p' s.length c') ∧ w'.cell? ⟨w4.heap.size, 1, none⟩ = some (.slice q' d.length d')) ∧ (w2.heap.size < w'.heap.size ∧ w'.cell? ⟨w2.heap.size, 2, none⟩ = some (.int .i64 d.length)) ∧ (w2.heap.size < w'.heap.size ∧ w'.cell? ⟨w2.heap.size, 3, none⟩ = some (.bool false)) ∧ Ints w' p s ∧ Ints w' q d ∧ Ints w' p' s ∧ Ints w' q' d ∧ Below w.heap.size w w') := (keeps_cells _ _ _).and ((keeps_cells _ _ _).and ((keeps_cell _ _ _).and ((keeps_cell _ _ _).and ((keeps_ints _ _).and ((keeps_ints _ _).and ((keeps_ints _ _).and ((keeps_ints _ _).and (keeps_below _))))))))
  have hS := hKS w5 _ ⟨⟨A.lt, A.c0, A.c1⟩, ⟨B.lt, B.c0, B.c1⟩, ⟨C5.lt, C5.cell (i := 2) rfl⟩, ⟨C5.lt, C5.cell (i := 3) rfl⟩, hs4, hd4, hi1, hi2, hb⟩ (Below.refl _ _)
  clear A B C5 hs4 hd4 hi1 hi2 hb
  refine wp_region_noPanic ?_
  refine wp_region_held_drew (S := (fun w' => (w.heap.size < w'.heap.size ∧ w'.cell? ⟨w.heap.size, 0, none⟩ = some (.slice p s.length c) ∧ w'.cell? ⟨w.heap.size, 1, none⟩ = some (.slice q d.length f)) ∧ (w4.heap.size < w'.heap.size ∧ w'.cell? ⟨w4.heap.size, 0, none⟩ = some (.slice p' s.length c') ∧ w'.cell? ⟨w4.heap.size, 1, none⟩ = some (.slice q' d.length d')) ∧ (w2.heap.size < w'.heap.size ∧ w'.cell? ⟨w2.heap.size, 2, none⟩ = some (.int .i64 d.length)) ∧ (w2.heap.size < w'.heap.size ∧ w'.cell? ⟨w2.heap.size, 3, none⟩ = some (.bool false)) ∧ Ints w' p s ∧ Ints w' q d ∧ Ints w' p' s ∧ Ints w' q' d ∧ Below w.heap.size w w')) (by kernel_rfl) ?_ (fun hHeld => ?_)
  · (try dsimp only); exact hKS _ _ (by first | exact hHeld | exact hS) (by first | assumption | (go_grown; done) | (refine from_drew ?_; go_grown; done))
  refine takeH 0 (some 63) (v := ?_) rfl rfl (by kernel_rfl) (by kernel_rfl) (by kernel_rfl) (by rfl) ?_ (by exact hHeld) ?_
  rotate_left
  · intro w hSw; (try dsimp only at hSw); go_simp; try (with_reducible rfl)
  try simp only [Act.put, List.setIfInBounds_toArray, List.set_cons_zero, List.set_cons_succ]
  refine takeH 1 (some 64) (v := ?_) rfl rfl (by kernel_rfl) (by kernel_rfl) (by kernel_rfl) (by rfl) ?_ (by exact hHeld) ?_
  rotate_left
  · intro w hSw; (try dsimp only at hSw); go_simp; try (with_reducible rfl)
  try simp only [Act.put, List.setIfInBounds_toArray, List.set_cons_zero, List.set_cons_succ]
  refine takeH 2 (some 65) (v := ?_) rfl rfl (by kernel_rfl) (by kernel_rfl) (by kernel_rfl) (by rfl) ?_ (by exact hHeld) ?_
  rotate_left
  · intro w hSw; (try dsimp only at hSw); go_simp; try (with_reducible rfl)
  try simp only [Act.put, List.setIfInBounds_toArray, List.set_cons_zero, List.set_cons_succ]
  refine takeH 3 (some 66) (v := ?_) rfl rfl (by kernel_rfl) (by kernel_rfl) (by kernel_rfl) (by rfl) ?_ (by exact hHeld) ?_
  rotate_left
  · intro w hSw; (try dsimp only at hSw); go_simp; try (with_reducible rfl)
  try simp only [Act.put, List.setIfInBounds_toArray, List.set_cons_zero, List.set_cons_succ]
  refine takeH 4 (some 67) (v := ?_) rfl rfl (by kernel_rfl) (by kernel_rfl) (by kernel_rfl) (by rfl) ?_ (by exact hHeld) ?_
  rotate_left
  · intro w hSw; (try dsimp only at hSw); go_simp; try (with_reducible rfl)
  try simp only [Act.put, List.setIfInBounds_toArray, List.set_cons_zero, List.set_cons_succ]
  refine wpAnyH_ready (rs := [5]) (by kernel_rfl) (by simp) ?_
  refine stepH 5 rfl (by rfl) (fun K hK => ?_) ?_
  · go_simp
    ((with_reducible refine (RefAEqual_is s d s d true Hself.out _ _ _ _ _ _ _ _ _ ?_ ?_ ?_ ?_).mono ?_); (go_split_ands; assumption); (go_split_ands; assumption); (go_split_ands; assumption); (go_split_ands; assumption); rintro e6 w6 ⟨rfl, hb6⟩)
    refine hK.out _ _ ?_ (fun hNew => ?_)
    · (try dsimp only); exact hKS _ _ (by first | exact hHeld | exact hS) (by first | assumption | (go_grown; done) | (refine from_drew ?_; go_grown; done))
    clear hK K hHeld
    have hHeld := hNew
    clear hNew
    try dsimp only at hHeld
    try simp only [Act.put, List.setIfInBounds_toArray, List.set_cons_zero, List.set_cons_succ]
    refine takeH 6 (some 69) (v := ?_) rfl rfl (by kernel_rfl) (by kernel_rfl) (by kernel_rfl) (by rfl) ?_ (by exact hHeld) ?_
    rotate_left
    · intro w hSw; (try dsimp only at hSw); go_simp; try (with_reducible rfl)
    try simp only [Act.put, List.setIfInBounds_toArray, List.set_cons_zero, List.set_cons_succ]
    refine takeH 7 (some 70) (v := ?_) rfl rfl (by kernel_rfl) (by kernel_rfl) (by kernel_rfl) (by rfl) ?_ (by exact hHeld) ?_
    rotate_left
    · intro w hSw; (try dsimp only at hSw); go_simp; try (with_reducible rfl)
    try simp only [Act.put, List.setIfInBounds_toArray, List.set_cons_zero, List.set_cons_succ]
    refine takeH 8 (some 71) (v := ?_) rfl rfl (by kernel_rfl) (by kernel_rfl) (by kernel_rfl) (by rfl) ?_ (by exact hHeld) ?_
    rotate_left
    · intro w hSw; (try dsimp only at hSw); go_simp; try (with_reducible rfl)
    try simp only [Act.put, List.setIfInBounds_toArray, List.set_cons_zero, List.set_cons_succ]
    refine takeH 9 (some 72) (v := ?_) rfl rfl (by kernel_rfl) (by kernel_rfl) (by kernel_rfl) (by rfl) ?_ (by exact hHeld) ?_
    rotate_left
    · intro w hSw; (try dsimp only at hSw); go_simp; try (with_reducible rfl)
    try simp only [Act.put, List.setIfInBounds_toArray, List.set_cons_zero, List.set_cons_succ]
    refine takeH 10 (some 73) (v := ?_) rfl rfl (by kernel_rfl) (by kernel_rfl) (by kernel_rfl) (by rfl) ?_ (by exact hHeld) ?_
    rotate_left
    · intro w hSw; (try dsimp only at hSw); go_simp; try (with_reducible rfl)
    try simp only [Act.put, List.setIfInBounds_toArray, List.set_cons_zero, List.set_cons_succ]
    refine takeH 11 (some 74) (v := ?_) rfl rfl (by kernel_rfl) (by kernel_rfl) (by kernel_rfl) (by rfl) ?_ (by exact hHeld) ?_
    rotate_left
    · intro w hSw; (try dsimp only at hSw); go_simp; try (with_reducible rfl)
    try simp only [Act.put, List.setIfInBounds_toArray, List.set_cons_zero, List.set_cons_succ]
    refine takeH 12 (some 75) (v := ?_) rfl rfl (by kernel_rfl) (by kernel_rfl) (by kernel_rfl) (by rfl) ?_ (by exact hHeld) ?_
    rotate_left
    · intro w hSw; (try dsimp only at hSw); go_simp; try (with_reducible rfl)
    try simp only [Act.put, List.setIfInBounds_toArray, List.set_cons_zero, List.set_cons_succ]
    refine takeH 13 (some 76) (v := ?_) rfl rfl (by kernel_rfl) (by kernel_rfl) (by kernel_rfl) (by rfl) ?_ (by exact hHeld) ?_
    rotate_left
    · intro w hSw; (try dsimp only at hSw); go_simp; try (with_reducible rfl)
    try simp only [Act.put, List.setIfInBounds_toArray, List.set_cons_zero, List.set_cons_succ]
    refine takeH 14 (some 77) (v := ?_) rfl rfl (by kernel_rfl) (by kernel_rfl) (by kernel_rfl) (by rfl) ?_ (by exact hHeld) ?_
    rotate_left
    · intro w hSw; (try dsimp only at hSw); go_simp; try (with_reducible rfl)
    try simp only [Act.put, List.setIfInBounds_toArray, List.set_cons_zero, List.set_cons_succ]
    refine takeH 15 (some 78) (v := ?_) rfl rfl (by kernel_rfl) (by kernel_rfl) (by kernel_rfl) (by rfl) ?_ (by exact hHeld) ?_
    rotate_left
    · intro w hSw; (try dsimp only at hSw); go_simp; try (with_reducible rfl)
    try simp only [Act.put, List.setIfInBounds_toArray, List.set_cons_zero, List.set_cons_succ]
    refine takeH 16 (some 79) (v := ?_) rfl rfl (by kernel_rfl) (by kernel_rfl) (by kernel_rfl) (by rfl) ?_ (by exact hHeld) ?_
    rotate_left
    · intro w hSw; (try dsimp only at hSw); go_simp; try (with_reducible rfl)
    try simp only [Act.put, List.setIfInBounds_toArray, List.set_cons_zero, List.set_cons_succ]
    refine takeH 17 (some 80) (v := ?_) rfl rfl (by kernel_rfl) (by kernel_rfl) (by kernel_rfl) (by rfl) ?_ (by exact hHeld) ?_
    rotate_left
    · intro w hSw; (try dsimp only at hSw); go_simp; try (with_reducible rfl)
    try simp only [Act.put, List.setIfInBounds_toArray, List.set_cons_zero, List.set_cons_succ]
    refine takeH 18 (some 81) (v := ?_) rfl rfl (by kernel_rfl) (by kernel_rfl) (by kernel_rfl) (by rfl) ?_ (by exact hHeld) ?_
    rotate_left
    · intro w hSw; (try dsimp only at hSw); go_simp; try (with_reducible rfl)
    try simp only [Act.put, List.setIfInBounds_toArray, List.set_cons_zero, List.set_cons_succ]
    refine takeH 19 (some 82) (v := ?_) rfl rfl (by kernel_rfl) (by kernel_rfl) (by kernel_rfl) (by rfl) ?_ (by exact hHeld) ?_
    rotate_left
    · intro w hSw; (try dsimp only at hSw); go_simp; try (with_reducible rfl)
    try simp only [Act.put, List.setIfInBounds_toArray, List.set_cons_zero, List.set_cons_succ]
    refine takeH 20 (some 83) (v := ?_) rfl rfl (by kernel_rfl) (by kernel_rfl) (by kernel_rfl) (by rfl) ?_ (by exact hHeld) ?_
    rotate_left
    · intro w hSw; (try dsimp only at hSw); go_simp; try (with_reducible rfl)
    try simp only [Act.put, List.setIfInBounds_toArray, List.set_cons_zero, List.set_cons_succ]
    refine takeH 21 (some 84) (v := ?_) rfl rfl (by kernel_rfl) (by kernel_rfl) (by kernel_rfl) (by rfl) ?_ (by exact hHeld) ?_
    rotate_left
    · intro w hSw; (try dsimp only at hSw); go_simp; try (with_reducible rfl)
    try simp only [Act.put, List.setIfInBounds_toArray, List.set_cons_zero, List.set_cons_succ]
    refine takeH 22 (some 85) (v := ?_) rfl rfl (by kernel_rfl) (by kernel_rfl) (by kernel_rfl) (by rfl) ?_ (by exact hHeld) ?_
    rotate_left
    · intro w hSw; (try dsimp only at hSw); go_simp; try (with_reducible rfl)
    try simp only [Act.put, List.setIfInBounds_toArray, List.set_cons_zero, List.set_cons_succ]
    refine takeH 23 (some 86) (v := ?_) rfl rfl (by kernel_rfl) (by kernel_rfl) (by kernel_rfl) (by rfl) ?_ (by exact hHeld) ?_
    rotate_left
    · intro w hSw; (try dsimp only at hSw); go_simp; try (with_reducible rfl)
    try simp only [Act.put, List.setIfInBounds_toArray, List.set_cons_zero, List.set_cons_succ]
    refine takeH 24 (some 2) (v := ?_) rfl rfl (by kernel_rfl) (by kernel_rfl) (by kernel_rfl) (by rfl) ?_ (by exact hHeld) ?_
    rotate_left
    · intro w hSw; (try dsimp only at hSw); go_simp; try (with_reducible rfl)
    try simp only [Act.put, List.setIfInBounds_toArray, List.set_cons_zero, List.set_cons_succ]
    refine wpAnyH_done (by kernel_rfl) ?_ _
    refine NoPanic.normal ?_
    go_wp2_with fail
    go_ret
    refine ⟨rfl, ?_⟩
    go_split_ands
    assumption
  exact AllReadyH.nil

set_option maxHeartbeats 1000000 in
theorem ArrayTabulates_law (p : Option Addr) (c : Nat) (s : List Int) (q : Option Addr) (f : Nat) (d : List Int) (w : World) (h : Ints w p s) (h' : Ints w q d) :
    Calls Try.prog 10 #[.agg #[.slice p s.length c, .slice q d.length f]] w fun e w' => e = .returned (.bool true) ∧ Below w.heap.size w w' := by
  have hsm := h.small
  cases hf : fewS s d 300 with
  | false =>
    have Hf := Lib.hid hf
    clear hf
    go_enter Try.func10, Try.ntmps10
    go_wp2_with fail
    refine (awake05 _).mono ?_
    rintro e w' ⟨rfl, hb1⟩
    have A := (At2.new w _ (.slice p s.length c) (.slice q d.length f) 43 rfl).keep hb1
    have hA0 := A.c0
    have hA1 := A.c1
    have hb := below_1 hb1
    clear hb1
    go_wp2_with fail
    refine (RefFew_is s d 300 false Hf.out _ _ _ _ _ (h.keep hb) (h'.keep hb)).mono ?_
    rintro e w' ⟨rfl, hb2⟩
    have hb := below_t hb hb2
    clear hb2
    go_wp2_with fail
    refine (awake05 _).mono ?_
    rintro e w' ⟨rfl, hb3⟩
    go_wp2_with fail
    go_ret
    exact ⟨rfl, below_t hb hb3⟩
  | true =>
    by_cases hl : 6 < s.length
    · have Hf := Lib.hid hf
      clear hf
      go_enter Try.func10, Try.ntmps10
      go_wp2_with fail
      refine (awake05 _).mono ?_
      rintro e w' ⟨rfl, hb1⟩
      have A := (At2.new w _ (.slice p s.length c) (.slice q d.length f) 43 rfl).keep hb1
      have hA0 := A.c0
      have hA1 := A.c1
      have hb := below_1 hb1
      clear hb1
      go_wp2_with fail
      refine (RefFew_is s d 300 true Hf.out _ _ _ _ _ (h.keep hb) (h'.keep hb)).mono ?_
      rintro e w' ⟨rfl, hb2⟩
      have A := A.keep hb2
      have hA0 := A.c0
      have hA1 := A.c1
      have hb := below_t hb hb2
      clear hb2
      go_wp2_with fail
      refine (awake05 _).mono ?_
      rintro e w' ⟨rfl, hb3⟩
      go_wp2_with fail
      go_ret
      exact ⟨rfl, below_t hb hb3⟩
    · by_cases hz : shapeS s = 0
      · cases hs : smallS s with
        | false => exact ArrayTabulates_large p c s q f d w h h' hf hl hz hs
        | true =>
          by_cases ha : arrS s d = 0
          · exact ArrayTabulates_right p c s q f d w h h' hf hl hs ha
          · exact ArrayTabulates_other p c s q f d w h h' hf hl hz hs ha
      · exact ArrayTabulates_bad p c s q f d w h h' hf hl hz
end Go.Proofs.Ythkfjdhakbjllaa
