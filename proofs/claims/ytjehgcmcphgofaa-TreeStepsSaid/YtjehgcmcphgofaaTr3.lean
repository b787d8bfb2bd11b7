/- Trees with few nodes; well-formed nodes, in the reference. No condition beyond what each says. -/
import Derived.Test.YtjehgcmcphgofaaTr2
import Derived.Test.YtjehgcmcphgofaaTrName2
namespace Go.Proofs.Ytjehgcmcphgofaa
open Go.RowKit Go.Shelf
set_option linter.unusedVariables false
set_option linter.unusedSimpArgs false

/-- a tree with few nodes and numbers, that is not deep -/
def fewT (t : TV) (m : Int) : Bool := decide (0 ≤ leftT t m) && (decide ((depthT t : Int) ≤ 150) && decide (numsW t ≤ 10 * m))
theorem left_size {t : TV} {m : Int} (h : 0 ≤ leftT t m) : (sizeT t : Int) ≤ m := by
  unfold leftT at h
  rcases leftN_cases (sizeT t) m with ⟨e1, e2⟩ | ⟨e1, e2⟩ <;> omega
theorem left_is (t : TV) (m r : Int) (hr : leftT t m = r) (w : World) (h0 : 0 ≤ m) (h1 : m ≤ 100000) (h : TreeIn w t) : Calls Try.prog 27 #[.agg #[.int .i64 t.d.kind, .int .i64 t.d.fn, .int .i64 t.d.axis, .string t.d.name, .slice t.d.np t.d.nums.length t.d.nc, .slice t.d.kp t.d.n t.d.kc], .int .i64 m] w fun e w' => e = .returned (.int .i64 r) ∧ Below w.heap.size w w' := hr ▸ left_any t m w h0 h1 h
theorem RDepth_is (t : TV) (r : Int) (hr : (depthT t : Int) = r) (w : World) (hs : sizeT t ≤ 100000) (h : TreeIn w t) : Calls Try.prog 15 #[.agg #[.int .i64 t.d.kind, .int .i64 t.d.fn, .int .i64 t.d.axis, .string t.d.name, .slice t.d.np t.d.nums.length t.d.nc, .slice t.d.kp t.d.n t.d.kc]] w fun e w' => e = .returned (.int .i64 r) ∧ Below w.heap.size w w' := hr ▸ RDepth_any t w hs h
theorem Numbers_is (t : TV) (r : Int) (hr : numsW t = r) (w : World) (h : TreeIn w t) : Calls Try.prog 28 #[.agg #[.int .i64 t.d.kind, .int .i64 t.d.fn, .int .i64 t.d.axis, .string t.d.name, .slice t.d.np t.d.nums.length t.d.nc, .slice t.d.kp t.d.n t.d.kc]] w fun e w' => e = .returned (.int .i64 r) ∧ Below w.heap.size w w' := hr ▸ Numbers_any t w h
set_option maxHeartbeats 1000000 in
theorem Few_any (t : TV) (m : Int) (w : World) (h0 : 0 ≤ m) (h1 : m ≤ 100000) (h : TreeIn w t) (r : Bool) (hr : fewT t m = r) : Calls Try.prog 9 #[.agg #[.int .i64 t.d.kind, .int .i64 t.d.fn, .int .i64 t.d.axis, .string t.d.name, .slice t.d.np t.d.nums.length t.d.nc, .slice t.d.kp t.d.n t.d.kc], .int .i64 m] w fun e w' => e = .returned (.bool r) ∧ Below w.heap.size w w' := by
  have hba := below_alloc w (.cells #[.int .i64 t.d.kind, .int .i64 t.d.fn, .int .i64 t.d.axis, .string t.d.name, .slice t.d.np t.d.nums.length t.d.nc, .slice t.d.kp t.d.n t.d.kc] 25)
  have A := At6.new w _ t.d 25 rfl
  have ht := h.keep hba
  obtain ⟨x, hx⟩ : ∃ x, leftT t m = x := ⟨_, rfl⟩
  have hw1 : wrap64 (10 * m) = 10 * m := wrap64_id (by omega) (by omega)
  have hw2 : IntKind.i64.wrap (10 * m) = 10 * m := wrapK_id (by omega) (by omega)
  have HX := Lib.hid hx
  have hb := hba
  clear hba
  by_cases hl : 0 ≤ x
  · have hd : decide (0 ≤ x) = true := by simpa using hl
    have hs : sizeT t ≤ 100000 := by have := left_size (t := t) (m := m) (by omega); omega
    have HS := Lib.hid hs
    obtain ⟨y, hy⟩ : ∃ y, (depthT t : Int) = y := ⟨_, rfl⟩
    obtain ⟨z, hz⟩ : ∃ z, numsW t = z := ⟨_, rfl⟩
    have HR : Hid (r = (decide (y ≤ 150) && decide (z ≤ 10 * m))) := by rw [← hr, Hid]; unfold fewT; rw [hx, hy, hz, hd]; rfl
    have HY := Lib.hid hy
    have HZ := Lib.hid hz
    clear hr hs hl hx hy hz
    go_enter Try.func9, Try.ntmps9
    go_wp2_with fail
    refine (left_is t m x HX.out _ h0 h1 ht).mono ?_
    rintro e1 w1 ⟨rfl, hb1⟩
    have A := A.keep hb1
    have ht := ht.keep hb1
    have hb := below_t hb hb1
    clear hb1
    have hA0 := A.c0
    have hA1 := A.c1
    have hA2 := A.c2
    have hA3 := A.c3
    have hA4 := A.c4
    have hA5 := A.c5
    go_wp2_with fail
    refine (RDepth_is t y HY.out _ HS.out ht).mono ?_
    rintro e2 w2 ⟨rfl, hb2⟩
    clear hA0
    clear hA1
    clear hA2
    clear hA3
    clear hA4
    clear hA5
    have A := A.keep hb2
    have ht := ht.keep hb2
    have hb := below_t hb hb2
    clear hb2
    by_cases hy : y ≤ 150
    · have hd2 : decide (y ≤ 150) = true := by simpa using hy
      have HR : Hid (r = decide (z ≤ 10 * m)) := by rw [Hid, HR.out, hd2]; rfl
      clear hy
      have hA0 := A.c0
      have hA1 := A.c1
      have hA2 := A.c2
      have hA3 := A.c3
      have hA4 := A.c4
      have hA5 := A.c5
      go_wp2_with fail
      refine (Numbers_is t z HZ.out _ ht).mono ?_
      rintro e3 w3 ⟨rfl, hb3⟩
      clear hA0
      clear hA1
      clear hA2
      clear hA3
      clear hA4
      clear hA5
      have hb := below_t hb hb3
      clear hb3
      clear A ht
      go_wp2_with fail
      go_ret
      exact ⟨ret_bool HR.out.symm, hb⟩
    · have hd2 : decide (y ≤ 150) = false := by simpa using hy
      have HR : Hid (r = false) := by rw [Hid, HR.out, hd2]; rfl
      clear hy A ht
      go_wp2_with fail
      go_ret
      exact ⟨ret_bool HR.out.symm, hb⟩
  · have hd : decide (0 ≤ x) = false := by simpa using hl
    have HR : Hid (r = false) := by rw [← hr, Hid]; unfold fewT; rw [hx, hd]; rfl
    clear hr hl hx
    go_enter Try.func9, Try.ntmps9
    go_wp2_with fail
    refine (left_is t m x HX.out _ h0 h1 ht).mono ?_
    rintro e1 w1 ⟨rfl, hb1⟩
    have hb := below_t hb hb1
    clear hb1
    clear A ht
    go_wp2_with fail
    go_ret
    exact ⟨ret_bool HR.out.symm, hb⟩

end Go.Proofs.Ytjehgcmcphgofaa
