/- Whether a property holds for all nodes: tree.all with tree.formed; tree.Right. No condition beyond what each says. -/
import Derived.Test.YtjehgcmcphgofaaTr13
namespace Go.Proofs.Ytjehgcmcphgofaa
open Go.RowKit Go.Shelf
set_option linter.unusedVariables false
set_option linter.unusedSimpArgs false

set_option maxHeartbeats 1000000 in
theorem all1_step (t : TV) (r : Bool) (b : Nat) (W : World) (hb : b < W.heap.size) (hc : W.cell? ⟨b, 0, none⟩ = some (.func (.func 31) #[] #[])) (h : TreeIn W t)
    (ih : ∀ w, TreeIn w t → Calls Try.prog 30 #[.agg #[.int .i64 t.d.kind, .int .i64 t.d.fn, .int .i64 t.d.axis, .string t.d.name, .slice t.d.np t.d.nums.length t.d.nc, .slice t.d.kp t.d.n t.d.kc], .func (.func 31) #[] #[]] w fun e w' => e = .returned (.bool r) ∧ Below w.heap.size w w') :
    Calls Try.prog 42 #[.agg #[.int .i64 t.d.kind, .int .i64 t.d.fn, .int .i64 t.d.axis, .string t.d.name, .slice t.d.np t.d.nums.length t.d.nc, .slice t.d.kp t.d.n t.d.kc], .pointer (some ⟨b, 0, none⟩)] W fun e w' => e = .returned (.bool (!r)) ∧ Below W.heap.size W w' := by
  have hba := below_alloc W (.cells #[.int .i64 t.d.kind, .int .i64 t.d.fn, .int .i64 t.d.axis, .string t.d.name, .slice t.d.np t.d.nums.length t.d.nc, .slice t.d.kp t.d.n t.d.kc] 25)
  have ht := h.keep hba
  have hc1 := (hba.cell (p := ⟨b, 0, none⟩) hb).trans hc
  have hne : b ≠ W.heap.size := by omega
  have IH := Lib.hid ih
  clear ih h
  go_enter Try.func42, Try.ntmps42
  go_wp2_with fail
  refine (IH.out _ ht).mono ?_
  rintro e w' ⟨rfl, hb'⟩
  go_wp2_with fail
  go_ret
  exact ⟨rfl, below_t hba hb'⟩
set_option maxHeartbeats 1000000 in
theorem all_step (d : TD) (kids : Nat → TV) (ih : ∀ i w r, nodesT (kids i) = r → TreeIn w (kids i) → Calls Try.prog 30 #[.agg #[.int .i64 (kids i).d.kind, .int .i64 (kids i).d.fn, .int .i64 (kids i).d.axis, .string (kids i).d.name, .slice (kids i).d.np (kids i).d.nums.length (kids i).d.nc, .slice (kids i).d.kp (kids i).d.n (kids i).d.kc], .func (.func 31) #[] #[]] w fun e w' => e = .returned (.bool r) ∧ Below w.heap.size w w')
    (w : World) (r : Bool) (hr : nodesT (.mk d kids) = r) (h : TreeIn w (.mk d kids)) : Calls Try.prog 30 #[.agg #[.int .i64 d.kind, .int .i64 d.fn, .int .i64 d.axis, .string d.name, .slice d.np d.nums.length d.nc, .slice d.kp d.n d.kc], .func (.func 31) #[] #[]] w fun e w' => e = .returned (.bool r) ∧ Below w.heap.size w w' := by
  have A := At6.new w _ d 25 rfl
  have ba := below_alloc w (.cells #[.int .i64 d.kind, .int .i64 d.fn, .int .i64 d.axis, .string d.name, .slice d.np d.nums.length d.nc, .slice d.kp d.n d.kc] 25)
  have bm := below_alloc (w.alloc (.cells #[.int .i64 d.kind, .int .i64 d.fn, .int .i64 d.axis, .string d.name, .slice d.np d.nums.length d.nc, .slice d.kp d.n d.kc] 25)) (.cells #[.func (.func 31) #[] #[]] 28)
  have A := A.keep bm
  have hc := box_cell (w.alloc (.cells #[.int .i64 d.kind, .int .i64 d.fn, .int .i64 d.axis, .string d.name, .slice d.np d.nums.length d.nc, .slice d.kp d.n d.kc] 25)) (.func (.func 31) #[] #[]) 28
  have hz : (w.alloc (.cells #[.int .i64 d.kind, .int .i64 d.fn, .int .i64 d.axis, .string d.name, .slice d.np d.nums.length d.nc, .slice d.kp d.n d.kc] 25)).heap.size = w.heap.size + 1 := by simp
  rw [hz] at hc
  have hb := below_t ba bm
  have hlt : w.heap.size + 1 < ((w.alloc (.cells #[.int .i64 d.kind, .int .i64 d.fn, .int .i64 d.axis, .string d.name, .slice d.np d.nums.length d.nc, .slice d.kp d.n d.kc] 25)).alloc (.cells #[.func (.func 31) #[] #[]] 28)).heap.size := by simp
  obtain ⟨W, hW⟩ : ∃ W, (w.alloc (.cells #[.int .i64 d.kind, .int .i64 d.fn, .int .i64 d.axis, .string d.name, .slice d.np d.nums.length d.nc, .slice d.kp d.n d.kc] 25)).alloc (.cells #[.func (.func 31) #[] #[]] 28) = W := ⟨_, rfl⟩
  rw [hW] at A hc hb hlt
  have HW := Lib.hid hW
  have HT := Lib.hid (h.keep hb)
  obtain ⟨x, hx⟩ : ∃ x, nodeB d (kids 0).d.kind = x := ⟨_, rfl⟩
  have HX := Lib.hid hx
  have HR : Hid (r = (x && everyTo d.n fun i => nodesT (kids i))) := by rw [Hid, ← hr, nodesT_mk, hx]
  have IH := Lib.hid ih
  have HB := Lib.hid hb
  have HC := Lib.hid hc
  have HL := Lib.hid hlt
  have HA := Lib.hid A
  clear hW ba bm h ih hr hz hb hx
  have hA0 := A.c0
  have hA1 := A.c1
  have hA2 := A.c2
  have hA3 := A.c3
  have hA4 := A.c4
  have hA5 := A.c5
  go_enter Try.func30, Try.ntmps30
  go_wp2_with fail
  rw [HW.out]
  clear HW
  go_wp2_with fail
  refine (formed_any d kids W HT.out x HX.out).mono ?_
  rintro e1 w1 ⟨rfl, hb1⟩
  clear hA0
  clear hA1
  clear hA2
  clear hA3
  clear hA4
  clear hA5
  have HT := Lib.hid (HT.out.keep hb1)
  have HB := Lib.hid (below_t HB.out hb1)
  have HC := Lib.hid ((hb1.cell (p := ⟨w.heap.size + 1, 0, none⟩) HL.out).trans HC.out)
  have HL := Lib.hid (Nat.lt_of_lt_of_le HL.out hb1.size)
  have A := A.keep hb1
  have hA5 := A.c5
  clear hb1 hc hlt A
  cases x with
  | false =>
    have HR : Hid (r = false) := HR.out
    go_wp2_with fail
    go_ret
    exact ⟨ret_bool HR.out.symm, HB.out⟩
  | true =>
    obtain ⟨y, hy⟩ : ∃ y, (!everyTo d.n fun i => nodesT (kids i)) = y := ⟨_, rfl⟩
    have HY := Lib.hid hy
    have HRY : Hid (r = !y) := by rw [Hid, ← hy, HR.out, Bool.not_not]; rfl
    clear hy
    go_wp2_with fail
    refine (ContainsFunc_tree 42 _ (enters_of Try.func42 (by kernel_rfl) rfl) d kids (fun i => nodesT (kids i)) y HY.out w1 HT.out fun i hi W' hW' => ?_).mono ?_
    · exact all1_step (kids i) _ (w.heap.size + 1) W' (Nat.lt_of_lt_of_le HL.out hW'.size) ((hW'.cell (p := ⟨w.heap.size + 1, 0, none⟩) HL.out).trans HC.out) (HT.out.keep hW' |>.kid hi).2
        (fun w2 ht => IH.out i w2 _ rfl ht)
    rintro e w' ⟨rfl, hb'⟩
    clear hA5
    go_wp2_with fail
    go_ret
    exact ⟨ret_bool HRY.out.symm, below_t HB.out hb'⟩
theorem all_any : ∀ (t : TV) (w : World) (r : Bool), nodesT t = r → TreeIn w t → Calls Try.prog 30 #[.agg #[.int .i64 t.d.kind, .int .i64 t.d.fn, .int .i64 t.d.axis, .string t.d.name, .slice t.d.np t.d.nums.length t.d.nc, .slice t.d.kp t.d.n t.d.kc], .func (.func 31) #[] #[]] w fun e w' => e = .returned (.bool r) ∧ Below w.heap.size w w'
  | .nil, _, _, _, h => h.no
  | .mk d kids, w, r, hr, h => all_step d kids (fun i w r a b => all_any (kids i) w r a b) w r hr h

set_option maxHeartbeats 1000000 in
theorem Right_any (t : TV) (w : World) (h : TreeIn w t) (r : Bool) (hr : rightT t = r) : Calls Try.prog 10 #[.agg #[.int .i64 t.d.kind, .int .i64 t.d.fn, .int .i64 t.d.axis, .string t.d.name, .slice t.d.np t.d.nums.length t.d.nc, .slice t.d.kp t.d.n t.d.kc]] w fun e w' => e = .returned (.bool r) ∧ Below w.heap.size w w' := by
  have hb := below_alloc w (.cells #[.int .i64 t.d.kind, .int .i64 t.d.fn, .int .i64 t.d.axis, .string t.d.name, .slice t.d.np t.d.nums.length t.d.nc, .slice t.d.kp t.d.n t.d.kc] 25)
  have A := At6.new w _ t.d 25 rfl
  have ht := h.keep hb
  obtain ⟨y, hy⟩ : ∃ y, shallowT t 100 = y := ⟨_, rfl⟩
  obtain ⟨x, hx⟩ : ∃ x, nodesT t = x := ⟨_, rfl⟩
  have HR : Hid (r = (y && x)) := by rw [Hid, ← hr, rightT, ← hy, shallow_depth, hx]
  have HX := Lib.hid hx
  have HY := Lib.hid hy
  clear hr hx hy
  go_enter Try.func10, Try.ntmps10
  go_wp2_with fail
  refine (shallow_any t 100 _ y (by omega) (by omega) HY.out ht).mono ?_
  rintro e1 w1 ⟨rfl, hb1⟩
  have A := A.keep hb1
  have ht := ht.keep hb1
  have hb := below_t hb hb1
  clear hb1
  cases y with
  | false =>
    have HR : Hid (r = false) := HR.out
    clear A ht
    go_wp2_with fail
    go_ret
    exact ⟨ret_bool HR.out.symm, hb⟩
  | true =>
    have HR : Hid (r = x) := by rw [Hid, HR.out]; rfl
    have hA0 := A.c0
    have hA1 := A.c1
    have hA2 := A.c2
    have hA3 := A.c3
    have hA4 := A.c4
    have hA5 := A.c5
    go_wp2_with fail
    refine (all_any t _ x HX.out ht).mono ?_
    rintro e2 w2 ⟨rfl, hb2⟩
    clear hA0
    clear hA1
    clear hA2
    clear hA3
    clear hA4
    clear hA5
    have hb := below_t hb hb2
    clear hb2
    clear A ht
    go_wp2_with fail
    go_ret
    exact ⟨ret_bool HR.out.symm, hb⟩
end Go.Proofs.Ytjehgcmcphgofaa
