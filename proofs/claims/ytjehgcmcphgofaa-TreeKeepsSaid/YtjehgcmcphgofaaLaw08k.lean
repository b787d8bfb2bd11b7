/- TreeKeeps, walked. No condition. -/
import Derived.Test.YtjehgcmcphgofaaTr34
namespace Go.Proofs.Ytjehgcmcphgofaa
open Go.RowKit Go.Shelf
set_option linter.unusedVariables false
set_option linter.unusedSimpArgs false

set_option maxHeartbeats 4000000 in
theorem TreeKeeps_law (x : TV) (w : World) (h : TreeIn w x) (hN : NamesIn x) (hM : NumsIn x) :
    Calls Try.prog 6 #[.agg #[.int .i64 x.d.kind, .int .i64 x.d.fn, .int .i64 x.d.axis, .string x.d.name, .slice x.d.np x.d.nums.length x.d.nc, .slice x.d.kp x.d.n x.d.kc]] w fun e w' => e = .returned (.bool true) ∧ Below w.heap.size w w' := by
  have hba := below_alloc w (.cells #[.int .i64 x.d.kind, .int .i64 x.d.fn, .int .i64 x.d.axis, .string x.d.name, .slice x.d.np x.d.nums.length x.d.nc, .slice x.d.kp x.d.n x.d.kc] 25)
  have A := At6.new w _ x.d 25 rfl
  obtain ⟨W, hW⟩ : ∃ W, w.alloc (.cells #[.int .i64 x.d.kind, .int .i64 x.d.fn, .int .i64 x.d.axis, .string x.d.name, .slice x.d.np x.d.nums.length x.d.nc, .slice x.d.kp x.d.n x.d.kc] 25) = W := ⟨_, rfl⟩
  rw [hW] at A hba
  obtain ⟨f, hf⟩ : ∃ f, fewT x 500 = f := ⟨_, rfl⟩
  have HF := Lib.hid hf
  have HM := Lib.hid hM
  have HT := Lib.hid (h.keep hba)
  have HA := Lib.hid A
  have HB := Lib.hid hba
  have HW := Lib.hid hW
  clear hW hba A hf hN hM h
  go_enter Try.func6, Try.ntmps6
  go_wp2_with fail
  rw [HW.out]
  clear HW
  refine (awake08 W).mono ?_
  rintro e1 w1 ⟨rfl, hb1⟩
  have HT := Lib.hid (HT.out.keep hb1)
  have HB := Lib.hid (below_t HB.out hb1)
  have HA := Lib.hid (HA.out.keep hb1)
  have A := HA.out
  have hA0 := A.c0
  have hA1 := A.c1
  have hA2 := A.c2
  have hA3 := A.c3
  have hA4 := A.c4
  have hA5 := A.c5
  clear A hb1
  go_wp2_with fail
  refine (Few_any x 500 w1 (by omega) (by omega) HT.out f HF.out).mono ?_
  rintro e2 w2 ⟨rfl, hb2⟩
  clear hA0
  clear hA1
  clear hA2
  clear hA3
  clear hA4
  clear hA5
  have HT := Lib.hid (HT.out.keep hb2)
  have HB := Lib.hid (below_t HB.out hb2)
  have HA := Lib.hid (HA.out.keep hb2)
  clear hb2
  cases f with
  | false =>
    go_wp2_with fail
    refine (awake08 w2).mono ?_
    rintro e3 w3 ⟨rfl, hb3⟩
    have HB3 := Lib.hid (below_t HB.out hb3)
    clear hb3
    go_wp2_with fail
    go_ret
    exact ⟨rfl, HB3.out⟩
  | true =>
    have HS : Hid (sizeT x ≤ 1000000 ∧ numsT x ≤ 1000000) := by
      have h1 := few_size HF.out
      have h2 := few_nums HF.out (by omega) HM.out
      exact ⟨by omega, by omega⟩
    have A := HA.out
    have hA0 := A.c0
    have hA1 := A.c1
    have hA2 := A.c2
    have hA3 := A.c3
    have hA4 := A.c4
    have hA5 := A.c5
    clear A
    go_wp2_with fail
    refine (RCopy_any x w2 HS.out.1 HS.out.2 HT.out).mono ?_
    rintro e3 w3 ⟨own, rfl, hTS, hsame, hb3⟩
    clear hA0
    clear hA1
    clear hA2
    clear hA3
    clear hA4
    clear hA5
    have HT := Lib.hid (HT.out.keep hb3)
    have HB := Lib.hid (below_t HB.out hb3)
    have HA := Lib.hid (HA.out.keep hb3)
    have HSo : Hid (sizeT own ≤ 1000000 ∧ numsT own ≤ 1000000) := by
      have := HS.out
      rw [← sameT_size hsame, ← sameT_nums hsame] at this
      exact this
    have hb4 := below_alloc w3 (.cells #[.int .i64 own.d.kind, .int .i64 own.d.fn, .int .i64 own.d.axis, .string own.d.name, .slice own.d.np own.d.nums.length own.d.nc, .slice own.d.kp own.d.n own.d.kc] 25)
    have B := At6.new w3 _ own.d 25 rfl
    obtain ⟨W4, hW4⟩ : ∃ W4, w3.alloc (.cells #[.int .i64 own.d.kind, .int .i64 own.d.fn, .int .i64 own.d.axis, .string own.d.name, .slice own.d.np own.d.nums.length own.d.nc, .slice own.d.kp own.d.n own.d.kc] 25) = W4 := ⟨_, rfl⟩
    rw [hW4] at hb4 B
    have HT4 := Lib.hid (HT.out.keep hb4)
    have HB4 := Lib.hid (below_t HB.out hb4)
    have HA4 := Lib.hid (HA.out.keep hb4)
    have HO4 := Lib.hid (hTS.tree.keep hb4)
    have HBB := Lib.hid B
    have HSame := Lib.hid hsame
    have HW4 := Lib.hid hW4
    obtain ⟨Y, hY⟩ : ∃ Y, w3.heap.size = Y := ⟨_, rfl⟩
    have HY := Lib.hid hY
    clear hTS hsame hb3 hb4 B hW4 hY HT HB HA
    go_wp2_with fail
    rw [HW4.out, HY.out]
    clear HW4
    refine (Copy_any own W4 HSo.out.1 HSo.out.2 HO4.out).mono ?_
    rintro e5 w5 ⟨cp, rfl, hTS5, hsame5, hb5⟩
    have hb6 := below_alloc w5 (.cells #[.int .i64 cp.d.kind, .int .i64 cp.d.fn, .int .i64 cp.d.axis, .string cp.d.name, .slice cp.d.np cp.d.nums.length cp.d.nc, .slice cp.d.kp cp.d.n cp.d.kc] 25)
    have HZ : Hid (W4.heap.size ≤ w5.heap.size) := hb5.size
    have HC6 := Lib.hid (At6.new w5 _ cp.d 25 rfl)
    have A := (HA4.out.keep hb5).keep hb6
    have HA6 := Lib.hid A
    have HS6 := Lib.hid (hTS5.keep (w' := w5.alloc (.cells #[.int .i64 cp.d.kind, .int .i64 cp.d.fn, .int .i64 cp.d.axis, .string cp.d.name, .slice cp.d.np cp.d.nums.length cp.d.nc, .slice cp.d.kp cp.d.n cp.d.kc] 25)) fun k _ hk => hb6.block k hk)
    have HT6 := Lib.hid (HT4.out.keep (below_t hb5 hb6))
    have HB6 := Lib.hid (below_t hb5 hb6)
    have HSame6 := Lib.hid (sameT_trans hsame5 HSame.out)
    obtain ⟨W6, hW6⟩ : ∃ W6, w5.alloc (.cells #[.int .i64 cp.d.kind, .int .i64 cp.d.fn, .int .i64 cp.d.axis, .string cp.d.name, .slice cp.d.np cp.d.nums.length cp.d.nc, .slice cp.d.kp cp.d.n cp.d.kc] 25) = W6 := ⟨_, rfl⟩
    have HW6 := Lib.hid hW6
    obtain ⟨Z, hZ⟩ : ∃ Z, w5.heap.size = Z := ⟨_, rfl⟩
    have HZ2 := Lib.hid hZ
    have hC6 := HC6.out
    rw [hW6, hZ] at hC6
    have HC6 := Lib.hid hC6
    have hh := HS6.out
    rw [hW6] at hh
    have HS6 := Lib.hid hh
    have hh2 := HT6.out
    rw [hW6] at hh2
    have HT6 := Lib.hid hh2
    have hh3 := HB6.out
    rw [hW6] at hh3
    have HB6 := Lib.hid hh3
    have hh4 := HA6.out
    rw [hW6] at hh4
    have HA6 := Lib.hid hh4
    have hA0 := A.c0
    have hA1 := A.c1
    have hA2 := A.c2
    have hA3 := A.c3
    have hA4 := A.c4
    have hA5 := A.c5
    clear hTS5 hsame5 hb5 hb6 A hW6 hZ hC6 hh hh2 hh3 hh4
    go_wp2_with fail
    rw [HW6.out, HZ2.out]
    clear HW6
    refine (RSame_any cp x W6 true HSame6.out HS6.out.tree HT6.out).mono ?_
    rintro e7 w7 ⟨rfl, hb7⟩
    clear hA0
    clear hA1
    clear hA2
    clear hA3
    clear hA4
    clear hA5
    have HS7 := Lib.hid (HS6.out.keep fun k _ hk => hb7.block k hk)
    have HB7 := Lib.hid (below_t HB6.out hb7)
    have C := HC6.out.keep hb7
    have hC0 := C.c0
    have hC1 := C.c1
    have hC2 := C.c2
    have hC3 := C.c3
    have hC4 := C.c4
    have hC5 := C.c5
    clear hb7 C
    go_wp2_with fail
    refine (spoil_any W4.heap.size cp cp.d.kind cp.d.fn cp.d.axis w7 HB7.out.size HS7.out.sp).mono ?_
    rintro e8 w8 ⟨⟨v, rfl⟩, hR⟩
    clear hC0
    clear hC1
    clear hC2
    clear hC3
    clear hC4
    clear hC5
    have hb8 : Below W4.heap.size W4 w8 := HB7.out.trans hR.below
    have HT8 := Lib.hid (HT4.out.keep hb8)
    have HO8 := Lib.hid (HO4.out.keep hb8)
    have HB8 := Lib.hid (below_t HB4.out hb8)
    have A := HA4.out.keep hb8
    have B := HBB.out.keep hb8
    rw [HY.out] at B
    have hA0 := A.c0
    have hA1 := A.c1
    have hA2 := A.c2
    have hA3 := A.c3
    have hA4 := A.c4
    have hA5 := A.c5
    have hB0 := B.c0
    have hB1 := B.c1
    have hB2 := B.c2
    have hB3 := B.c3
    have hB4 := B.c4
    have hB5 := B.c5
    clear hb8 hR A B
    go_wp2_with fail
    refine (RSame_any own x w8 true HSame.out HO8.out HT8.out).mono ?_
    rintro e9 w9 ⟨rfl, hb9⟩
    have HB9 := Lib.hid (below_t HB8.out hb9)
    clear hA0
    clear hA1
    clear hA2
    clear hA3
    clear hA4
    clear hA5
    clear hB0
    clear hB1
    clear hB2
    clear hB3
    clear hB4
    clear hB5
    clear hb9
    go_wp2_with fail
    go_ret
    exact ⟨rfl, HB9.out⟩
end Go.Proofs.Ytjehgcmcphgofaa
