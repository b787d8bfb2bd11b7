/- Well-formed nodes, in the reference: a name. No condition beyond what each says. -/
import Derived.Test.YtjehgcmcphgofaaTr4
namespace Go.Proofs.Ytjehgcmcphgofaa
open Go.RowKit Go.Shelf
set_option linter.unusedVariables false
set_option linter.unusedSimpArgs false

theorem rname_is (s : ByteArray) (r : Bool) (hr : nameB s = r) (w : World) (hs : s.size ≤ 9223372036854775807) : Calls Try.prog 54 #[.string s] w fun e w' => e = .returned (.bool r) ∧ Below w.heap.size w w' := by
  subst hr
  exact (refName_any s w hs).mono fun e w' ⟨h1, h2⟩ => ⟨h1, h2 ▸ Below.refl _ _⟩
set_option maxRecDepth 100000 in
set_option maxHeartbeats 1000000 in
theorem node_2 (d : TD) (w : World) (hk : d.kind = 2) (hs : d.name.size ≤ 9223372036854775807) : Calls Try.prog 48 #[.agg #[.int .i64 d.kind, .int .i64 d.fn, .int .i64 d.axis, .string d.name, .slice d.np d.nums.length d.nc, .slice d.kp d.n d.kc]] w fun e w' => e = .returned (.bool (nodeB2 d)) ∧ Below w.heap.size w w' := by
  have k1 : (d.kind == 1) = false := by rw [beq_eq_false_iff_ne]; omega
  have k2 : (d.kind == 2) = true := by simp [hk]
  have k3 : (d.kind == 3) = false := by rw [beq_eq_false_iff_ne]; omega
  have k4 : (d.kind == 4) = false := by rw [beq_eq_false_iff_ne]; omega
  clear hk
  by_cases hf : d.fn = 0
  · by_cases hx : d.axis = -1
    · have f1 : (d.fn == 0) = true := by simp [hf]
      have f2 : (d.axis == -1) = true := by simp [hx]
      have ha : decide (0 ≤ d.axis) = false := by simp; omega
      obtain ⟨o, ho⟩ : ∃ o, nameB d.name = o := ⟨_, rfl⟩
      have HO := Lib.hid ho
      have HR : Hid (nodeB2 d = (o && (decide (d.nums.length = 0) && decide (d.n = 0)))) := by rw [Hid, nodeB2, decide_eq_true hf, decide_eq_true hx, ho]; rfl
      clear hf hx ho
      have A := At6.new w _ d 25 rfl
      have hb := below_alloc w (.cells #[.int .i64 d.kind, .int .i64 d.fn, .int .i64 d.axis, .string d.name, .slice d.np d.nums.length d.nc, .slice d.kp d.n d.kc] 25)
      go_enter Try.func48, Try.ntmps48
      go_wp2_with fail
      refine (rname_is d.name o HO.out _ hs).mono ?_
      rintro e1 w1 ⟨rfl, hb1⟩
      have A := A.keep hb1
      have hb := below_t hb hb1
      clear hb1
      have hA4 := A.c4
      have hA5 := A.c5
      clear A
      cases o with
      | false =>
        go_wp2_with fail
        go_ret
        exact ⟨ret_bool (by rw [HR.out]; rfl), hb⟩
      | true =>
        have hn0 : ((d.nums.length : Int) == 0) = decide (d.nums.length = 0) := by rw [Bool.eq_iff_iff]; simp
        by_cases hz : d.nums.length = 0
        · have hn1 : ((d.nums.length : Int) == 0) = true := by rw [hn0]; exact decide_eq_true hz
          have HZ := Lib.hid hz
          have HR : Hid (nodeB2 d = ((d.n : Int) == 0)) := by
            rw [Hid, HR.out, decide_eq_true hz]
            rw [Bool.eq_iff_iff]; simp
          clear hz hn0
          go_wp2_with fail
          go_ret
          exact ⟨ret_bool HR.out.symm, hb⟩
        · have hn1 : ((d.nums.length : Int) == 0) = false := by rw [hn0]; exact decide_eq_false hz
          have HR : Hid (nodeB2 d = false) := by rw [Hid, HR.out, decide_eq_false hz]; rfl
          clear hz hn0
          go_wp2_with fail
          go_ret
          exact ⟨ret_bool HR.out.symm, hb⟩
    · have f1 : (d.fn == 0) = true := by simp [hf]
      have f2 : (d.axis == -1) = false := by rw [beq_eq_false_iff_ne]; exact hx
      have HR : Hid (nodeB2 d = false) := by rw [Hid, nodeB2, decide_eq_true hf, decide_eq_false hx]; rfl
      clear hf hx
      go_enter Try.func48, Try.ntmps48
      go_wp2_with fail
      all_goals
        go_ret
        exact ⟨ret_bool HR.out.symm, below_alloc _ _⟩
  · have f1 : (d.fn == 0) = false := by rw [beq_eq_false_iff_ne]; exact hf
    have HR : Hid (nodeB2 d = false) := by rw [Hid, nodeB2, decide_eq_false hf]; rfl
    clear hf
    go_enter Try.func48, Try.ntmps48
    go_wp2_with fail
    all_goals
      go_ret
      exact ⟨ret_bool HR.out.symm, below_alloc _ _⟩
end Go.Proofs.Ytjehgcmcphgofaa
