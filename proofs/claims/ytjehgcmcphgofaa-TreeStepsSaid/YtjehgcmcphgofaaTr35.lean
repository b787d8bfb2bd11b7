/- Small of the reference; a function around a tree. No condition beyond what each says. -/
import Derived.Test.YtjehgcmcphgofaaTr34
namespace Go.Proofs.Ytjehgcmcphgofaa
open Go.RowKit Go.Shelf
set_option linter.unusedVariables false
set_option linter.unusedSimpArgs false

theorem Small_any (t : TV) (w : World) (hN : NamesIn t) (h : TreeIn w t) (r : Bool) (hr : (fewT t 300 && rightT t) = r) :
    Calls Try.prog 18 #[.agg #[.int .i64 t.d.kind, .int .i64 t.d.fn, .int .i64 t.d.axis, .string t.d.name, .slice t.d.np t.d.nums.length t.d.nc, .slice t.d.kp t.d.n t.d.kc], .int .i64 300] w fun e w' => e = .returned (.bool r) ∧ Below w.heap.size w w' := by
  have hba := below_alloc w (.cells #[.int .i64 t.d.kind, .int .i64 t.d.fn, .int .i64 t.d.axis, .string t.d.name, .slice t.d.np t.d.nums.length t.d.nc, .slice t.d.kp t.d.n t.d.kc] 25)
  have A := At6.new w _ t.d 25 rfl
  obtain ⟨W, hW⟩ : ∃ W, w.alloc (.cells #[.int .i64 t.d.kind, .int .i64 t.d.fn, .int .i64 t.d.axis, .string t.d.name, .slice t.d.np t.d.nums.length t.d.nc, .slice t.d.kp t.d.n t.d.kc] 25) = W := ⟨_, rfl⟩
  rw [hW] at A hba
  obtain ⟨f, hf⟩ : ∃ f, fewT t 300 = f := ⟨_, rfl⟩
  have HF := Lib.hid hf
  have HN := Lib.hid hN
  have HT := Lib.hid (h.keep hba)
  have HA := Lib.hid A
  have HB := Lib.hid hba
  have HW := Lib.hid hW
  have HR := Lib.hid hr
  have hA0 := A.c0
  have hA1 := A.c1
  have hA2 := A.c2
  have hA3 := A.c3
  have hA4 := A.c4
  have hA5 := A.c5
  clear hW hba A hf hN h hr
  go_enter Try.func18, Try.ntmps18
  go_wp2_with fail
  rw [HW.out]
  clear HW
  go_wp2_with fail
  refine (Few_any t 300 W (by omega) (by omega) HT.out f HF.out).mono ?_
  rintro e1 w1 ⟨rfl, hb1⟩
  clear hA0
  clear hA1
  clear hA2
  clear hA3
  clear hA4
  clear hA5
  have HT := Lib.hid (HT.out.keep hb1)
  have HB := Lib.hid (below_t HB.out hb1)
  have A := HA.out.keep hb1
  clear hb1
  cases f with
  | false =>
    have HR2 : Hid (r = false) := by rw [Hid, ← HR.out, HF.out]; rfl
    clear A
    go_wp2_with fail
    go_ret
    exact ⟨ret_bool HR2.out.symm, HB.out⟩
  | true =>
    have HS : Hid (sizeT t ≤ 100000) := by have := few_size HF.out; simp only [Hid]; omega
    have HR2 : Hid (rightT t = r) := by rw [Hid, ← HR.out, HF.out]; rfl
    have hA0 := A.c0
    have hA1 := A.c1
    have hA2 := A.c2
    have hA3 := A.c3
    have hA4 := A.c4
    have hA5 := A.c5
    clear A
    go_wp2_with fail
    refine (RRight_any t w1 HS.out HN.out HT.out r HR2.out).mono ?_
    rintro e2 w2 ⟨rfl, hb2⟩
    clear hA0
    clear hA1
    clear hA2
    clear hA3
    clear hA4
    clear hA5
    have HB2 := Lib.hid (below_t HB.out hb2)
    clear hb2
    go_wp2_with fail
    go_ret
    exact ⟨by simp, HB2.out⟩
/-- a function around a tree -/
def ravT (g : Nat) (x : TV) : TV := .mk ⟨3, 6, -1, ⟨#[]⟩, none, 0, [], some ⟨g, 0, none⟩, 1, 1⟩ fun _ => x
theorem ravT_size (g : Nat) (x : TV) : sizeT (ravT g x) = sizeT x + 1 := by show 1 + (0 + sizeT x) = _; omega
theorem ravT_depth (g : Nat) (x : TV) : depthT (ravT g x) = depthT x + 1 := by show max 0 (depthT x) + 1 = _; omega
theorem ravT_right (g : Nat) (x : TV) (h : rightT x = true) : rightT (ravT g x) = decide ((depthT x : Int) < 100) := by
  unfold rightT at h ⊢
  simp only [Bool.and_eq_true, decide_eq_true_eq] at h
  have hn : nodesT (ravT g x) = true := by
    show (nodeB _ x.d.kind && (true && nodesT x)) = true
    rw [h.2]
    have : nodeB ⟨3, 6, -1, ⟨#[]⟩, none, 0, [], some ⟨g, 0, none⟩, 1, 1⟩ x.d.kind = true := by kernel_rfl
    rw [this]
    rfl
  rw [hn, ravT_depth, Bool.and_true]
  congr 1
theorem ravT_in {g : Nat} {x : TV} {w : World} (hx : TreeIn w x) (ho : Own w g 25 (cellsT x.d)) : TreeIn w (ravT g x) := by
  refine ⟨Ints.nil _, by simp, fun _ => ⟨g, 0, rfl, ho.lt, fun i hi => ?_⟩, fun i _ => hx⟩
  have hi0 : i = 0 := by have : i < 1 := hi; omega
  subst hi0
  exact ⟨ho.cell (i := 0) rfl, ho.cell (i := 1) rfl, ho.cell (i := 2) rfl, ho.cell (i := 3) rfl, ho.cell (i := 4) rfl, ho.cell (i := 5) rfl⟩
theorem rav_size (g : Nat) (x : TV) (w : World) (hs : sizeT x ≤ 300) (h : TreeIn w (ravT g x)) : Calls Try.prog 12 #[.agg #[.int .i64 3, .int .i64 6, .int .i64 (-1), .string ⟨#[]⟩, .slice none 0 0, .slice (some ⟨g, 0, none⟩) 1 1]] w fun e w' => e = .returned (.int .i64 ((sizeT x : Int) + 1)) ∧ Below w.heap.size w w' :=
  (Size_any (ravT g x) w (by rw [ravT_size]; omega) h).mono fun e w' ⟨he, hb⟩ => ⟨by rw [he, ravT_size]; rfl, hb⟩
theorem rav_depth (g : Nat) (x : TV) (w : World) (hs : sizeT x ≤ 300) (h : TreeIn w (ravT g x)) : Calls Try.prog 14 #[.agg #[.int .i64 3, .int .i64 6, .int .i64 (-1), .string ⟨#[]⟩, .slice none 0 0, .slice (some ⟨g, 0, none⟩) 1 1]] w fun e w' => e = .returned (.int .i64 ((depthT x : Int) + 1)) ∧ Below w.heap.size w w' :=
  (Depth_any (ravT g x) w (by rw [ravT_size]; omega) h).mono fun e w' ⟨he, hb⟩ => ⟨by rw [he, ravT_depth]; rfl, hb⟩
theorem rav_right (g : Nat) (x : TV) (w : World) (b : Bool) (hb : decide ((depthT x : Int) < 100) = b) (hr : rightT x = true) (h : TreeIn w (ravT g x)) : Calls Try.prog 10 #[.agg #[.int .i64 3, .int .i64 6, .int .i64 (-1), .string ⟨#[]⟩, .slice none 0 0, .slice (some ⟨g, 0, none⟩) 1 1]] w fun e w' => e = .returned (.bool b) ∧ Below w.heap.size w w' :=
  Right_any (ravT g x) w h b (by rw [ravT_right g x hr, hb])
end Go.Proofs.Ytjehgcmcphgofaa
