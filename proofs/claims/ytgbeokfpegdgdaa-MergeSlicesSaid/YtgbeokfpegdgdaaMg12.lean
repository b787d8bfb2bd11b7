/- Merging pieces that can be joined one after the other: one piece is left. No condition beyond what each says. -/
import Derived.Test.YtgbeokfpegdgdaaMg11
namespace Go.Proofs.Ytgbeokfpegdgdaa
open Go.RowKit Go.Shelf
set_option linter.unusedVariables false
set_option linter.unusedSimpArgs false

@[go_sem] theorem run_store_func {P : Program} (w : World) (a : Addr) (m : Mode) (f : Fn) (xs ys : Array Value) : (store a (.func f xs ys) m).run P w = stored P w a (.func f xs ys) m := run_store P w a _ m rfl
theorem Fits.twin {x y y' : PV} (h : Fits x y) (t : Twin y y') : Fits x y' := by
  obtain ⟨h1, h2, h3, h4, h5, h6, h7⟩ := h
  have ts := t.small h7
  obtain ⟨t1, t2, t3⟩ := t
  obtain ⟨a1, a2, a3, a4, a5, a6, a7⟩ := h1
  obtain ⟨b1, b2, b3, b4, b5, b6, b7⟩ := t3
  exact ⟨⟨b1.trans a1, b2.trans a2, b3.trans a3, b4.trans a4, b5.trans a5, b6.trans a6, b7.trans a7⟩, h2, by rw [t1]; exact h3, by rw [t2]; exact h4, by rw [t1, t2]; exact h5, h6, ts⟩
theorem OneAcc.trans {x y z : PV} (h : OneAcc x y) (k : OneAcc y z) : OneAcc x z :=
  ⟨k.k.trans h.k, k.b.trans h.b, k.e.trans h.e, k.s.trans h.s, k.st.trans h.st, k.sp.trans h.sp, k.md.trans h.md⟩
theorem flatP_at {xs : List PV} : ∀ {k : Nat} {x : PV}, xs[k]? = some x → ∀ i, i < 9 → (flatP xs)[k * 9 + i]? = x.vals[i]? := by
  induction xs with
  | nil => intro k x h; simp at h
  | cons y ys ih =>
    intro k x h i hi
    cases k with
    | zero =>
      have e : y = x := by simpa using h
      subst e
      simp only [flatP, List.flatMap_cons, Nat.zero_mul, Nat.zero_add]
      rw [List.getElem?_append_left (by simp [PV.vals]; omega)]
    | succ k =>
      have e : ys[k]? = some x := by simpa using h
      have := ih e i hi
      simp only [flatP, List.flatMap_cons] at this ⊢
      rw [List.getElem?_append_right (by simp [PV.vals]; omega)]
      rw [← this]
      congr 1
      simp [PV.vals]
      omega
/-- each piece can be joined with what the ones before it have become -/
def Linked (xs : List PV) : Prop := ∀ j a u v z, xs[0]? = some a → xs[j]? = some u → xs[j + 1]? = some v → Glue a u z → Fits z v
/-- the stack when the first k pieces have been pushed -/
def MSt (w : World) (b : Nat) (xs : List PV) (k : Nat) (z : World) : Prop :=
  (k = 0 ∧ StkSt w w.heap.size b (.func (.func 10) #[] #[]) (.slice none 0 0) [] z) ∨ ∃ j v a u y, k = j + 1 ∧ xs[0]? = some a ∧ xs[j]? = some u ∧ Glue a u y ∧ StkSt w w.heap.size b (.func (.func 10) #[] #[]) v [y] z
theorem MSt.below {w : World} {b : Nat} {xs : List PV} {k : Nat} {z : World} (h : MSt w b xs k z) : Below w.heap.size w z := by
  rcases h with ⟨-, h⟩ | ⟨_, _, _, _, _, -, -, -, -, h⟩
  · exact h.below
  · exact h.below
theorem MSt.lt {w : World} {b : Nat} {xs : List PV} {k : Nat} {z : World} (h : MSt w b xs k z) : w.heap.size ≤ z.heap.size := h.below.size
theorem MSt.keep {w : World} {b : Nat} {xs : List PV} {k : Nat} {z z' : World} (h : MSt w b xs k z) (hb : Below z.heap.size z z') : MSt w b xs k z' := by
  rcases h with ⟨h0, h⟩ | ⟨j, v, a, u, y, h1, h2, h3, h4, h⟩
  · exact .inl ⟨h0, h.keep hb⟩
  · exact .inr ⟨j, v, a, u, y, h1, h2, h3, h4, h.keep hb⟩
/-- a push carries the state on -/
theorem push_any (w : World) (b : Nat) (xs : List PV) (hL : Linked xs) (k : Nat) (x y : PV) (hx : xs[k]? = some x) (ht : Twin x y) (z : World) (h : MSt w b xs k z) (hy : PVN w.heap.size z y) :
    Calls Try.prog 16 #[.pointer (some ⟨b, 0, none⟩), .agg #[.slice y.p y.lo.length y.c, .slice y.q y.hi.length y.f, .int .i64 y.k, .int .i64 y.b, .int .i64 y.e, .slice y.g y.s.length y.d, .int .i64 y.st, .int .i64 y.sp, .int .i64 y.md]] z fun e w' => e = .returned (.tuple #[]) ∧ MSt w b xs (k + 1) w' := by
  rcases h with ⟨rfl, h⟩ | ⟨j, v, a, u, t, rfl, h2, h3, h4, h⟩
  · refine (push_first w w.heap.size b _ y z h hy).mono fun e w' ⟨he, v, hs⟩ => ⟨he, .inr ⟨0, v, x, x, y, rfl, hx, hx, ⟨ht.lo, ht.hi, ht.acc⟩, hs⟩⟩
  · refine (push_join w w.heap.size b v t y ((hL j a u x t h2 h3 hx h4).twin ht) z h hy).mono fun e w' ⟨he, v', t', hs, hg⟩ => ⟨he, .inr ⟨j + 1, v', a, x, t', rfl, h2, hx, ⟨hg.lo.trans h4.lo, hg.hi.trans ht.hi, h4.acc.trans hg.acc⟩, hs⟩⟩

def MergeRet (xs : List PV) (w : World) (e : Ending) (w' : World) : Prop := (∃ g' cap' z a u, e = .returned (.slice (some ⟨g', 0, none⟩) 1 cap') ∧ xs[0]? = some a ∧ xs[xs.length - 1]? = some u ∧ Glue a u z ∧ Own w' g' 36 [.slice z.p z.lo.length z.c, .slice z.q z.hi.length z.f, .int .i64 z.k, .int .i64 z.b, .int .i64 z.e, .slice z.g z.s.length z.d, .int .i64 z.st, .int .i64 z.sp, .int .i64 z.md] ∧ PVN w.heap.size w' z) ∧ Below w.heap.size w w'

set_option maxRecDepth 100000 in
set_option maxHeartbeats 1500000 in
theorem Merge_any (xs : List PV) (hL : Linked xs) (h0 : 0 < xs.length) (hn : xs.length ≤ 1000000) (g cap : Nat) (w : World) (ho : Own w g 36 (flatP xs)) (hi : ∀ x ∈ xs, PVI w x ∧ PVS x) :
    Calls Try.prog 8 #[.slice (some ⟨g, 0, none⟩) xs.length cap] w (MergeRet xs w) := by
  have hglt := ho.lt
  obtain ⟨W, hW, HS⟩ : ∃ W, w.alloc (.cells #[.slice none 0 0, (.func (.func 10) #[] #[])] 50) = W ∧ Hid (MSt w w.heap.size xs 0 W) := by
    refine ⟨_, rfl, .inl ⟨rfl, ⟨Own.made w _ [.slice none 0 0, (.func (.func 10) #[] #[])] _ rfl, World.ownsRow_nil _ _ _ _, fun y hy => by simp at hy, below_alloc _ _, Nat.le_refl _⟩⟩⟩
  have HW := Lib.hid hW
  have HO := Lib.hid ho
  have HI := Lib.hid hi
  have HL := Lib.hid hL
  clear hW ho hi hL
  go_enter Try.func8, Try.ntmps8
  go_wp2_with fail
  rw [HW.out]
  clear HW
  go_loopw [9] (fun i wr => ∃ k : Nat, k ≤ xs.length ∧ i = .int .i64 k ∧ ∃ wz, wz = wr ∧ Hid (MSt w w.heap.size xs k wz)) (fun i _ => xs.length - (intOf i).toNat)
  case atStart => exact ⟨0, Nat.zero_le _, rfl, W, rfl, HS⟩
  case round =>
    obtain ⟨k, hk, rfl, wz, rfl, HM⟩ := hrel
    by_cases hlt : k < xs.length
    · obtain ⟨x, hx⟩ : ∃ x, xs[k]? = some x := ⟨_, List.getElem?_eq_getElem hlt⟩
      have hbw := HM.out.below
      have hc : ∀ i, i < 9 → wz.cell? ⟨g, k * 9 + i, none⟩ = x.vals[i]? := fun i hi' => (hbw.cell (p := ⟨g, k * 9 + i, none⟩) hglt).trans (by
        have h1 := flatP_at hx i hi'
        obtain ⟨u, hu⟩ : ∃ u, x.vals[i]? = some u := ⟨_, List.getElem?_eq_getElem (by simpa [PV.vals] using hi')⟩
        rw [hu]
        exact HO.out.cell (h1.trans hu))
      have c0 : wz.cell? ⟨g, k * 9, none⟩ = some (.slice x.p x.lo.length x.c) := hc 0 (by omega)
      have c1 : wz.cell? ⟨g, k * 9 + 1, none⟩ = some (.slice x.q x.hi.length x.f) := hc 1 (by omega)
      have c2 : wz.cell? ⟨g, k * 9 + 2, none⟩ = some (.int .i64 x.k) := hc 2 (by omega)
      have c3 : wz.cell? ⟨g, k * 9 + 3, none⟩ = some (.int .i64 x.b) := hc 3 (by omega)
      have c4 : wz.cell? ⟨g, k * 9 + 4, none⟩ = some (.int .i64 x.e) := hc 4 (by omega)
      have c5 : wz.cell? ⟨g, k * 9 + 5, none⟩ = some (.slice x.g x.s.length x.d) := hc 5 (by omega)
      have c6 : wz.cell? ⟨g, k * 9 + 6, none⟩ = some (.int .i64 x.st) := hc 6 (by omega)
      have c7 : wz.cell? ⟨g, k * 9 + 7, none⟩ = some (.int .i64 x.sp) := hc 7 (by omega)
      have c8 : wz.cell? ⟨g, k * 9 + 8, none⟩ = some (.int .i64 x.md) := hc 8 (by omega)
      have hi1 : (k : Int) < (xs.length : Int) := by omega
      have hxi := HI.out x (List.mem_of_getElem? hx)
      have hba := below_alloc wz (.cells #[.slice x.p x.lo.length x.c, .slice x.q x.hi.length x.f, .int .i64 x.k, .int .i64 x.b, .int .i64 x.e, .slice x.g x.s.length x.d, .int .i64 x.st, .int .i64 x.sp, .int .i64 x.md] 36)
      have IX := Lib.hid ((PVI.keep hxi.1 hbw).keep hba)
      have SX := Lib.hid hxi.2
      have HX := Lib.hid hx
      have HM2 := Lib.hid (HM.out.keep hba)
      have hsz := hbw.size
      clear hc hbw hxi hx hba
      go_wp2_with fail
      refine (copied_any x SX.out _ IX.out).mono ?_
      rintro e1 w1 ⟨⟨y, rfl, hy1, ht1⟩, hb1⟩
      have HM3 := Lib.hid (HM2.out.keep hb1)
      have hy1 := hy1.mono (B' := w.heap.size) (by simp; omega)
      clear c0 c1 c2 c3 c4 c5 c6 c7 c8 hb1
      go_wp2_with fail
      refine (push_any w w.heap.size xs HL.out k x y HX.out ht1 w1 HM3.out hy1).mono ?_
      rintro e2 w2 ⟨rfl, HM4⟩
      have HM4 := Lib.hid HM4
      go_wp2_with fail
      go_roundw
      case rel => exact ⟨k + 1, by omega, by go_num, w2, rfl, HM4⟩
      case measure => simp [intOf]; omega
    · have e : k = xs.length := by omega
      obtain ⟨j, v, a, u, y, hj, ha, hu, hgl, hs⟩ : ∃ j v a u y, k = j + 1 ∧ xs[0]? = some a ∧ xs[j]? = some u ∧ Glue a u y ∧ StkSt w w.heap.size w.heap.size (.func (.func 10) #[] #[]) v [y] wz := by
        rcases HM.out with ⟨h1, -⟩ | h
        · omega
        · exact h
      obtain ⟨g', cap', rfl, -, -⟩ := row_slice (n := 0) hs.row
      have q0 := hs.st.cell (i := 0) rfl
      have hi1 : ¬ (k : Int) < (xs.length : Int) := by omega
      have HR : Hid (MergeRet xs w (.returned (.slice (some ⟨g', 0, none⟩) (0 + 1) cap')) wz) :=
        ⟨⟨g', cap', y, a, u, rfl, ha, by rw [show xs.length - 1 = j by omega]; exact hu, hgl, by have := row_own hs.row rfl; simpa [flatP, PV.vals] using this, hs.rows y (by simp)⟩, hs.below⟩
      clear hs hgl ha hu HM
      go_wp2_with fail
      go_ret
      exact HR.out
end Go.Proofs.Ytgbeokfpegdgdaa
