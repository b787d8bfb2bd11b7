/- Trees in memory; their sizes, depths, numbers. No condition beyond what each says. -/
import Derived.Test.YtjehgcmcphgofaaTr0
namespace Go.Proofs.Ytjehgcmcphgofaa
open Go.RowKit Go.Shelf
set_option linter.unusedVariables false
set_option linter.unusedSimpArgs false

/-- a node's six cells -/
structure TD where
  kind : Int
  fn : Int
  axis : Int
  name : ByteArray
  np : Option Addr
  nc : Nat
  nums : List Int
  kp : Option Addr
  kc : Nat
  n : Nat
/-- a tree as it lies in memory: a node, and its kids from 0 up to n -/
inductive TV where
  | nil
  | mk (d : TD) (kids : Nat → TV)
def TV.d : TV → TD
  | .nil => ⟨0, 0, 0, .empty, none, 0, [], none, 0, 0⟩
  | .mk d _ => d
def TV.kid : TV → Nat → TV
  | .nil => fun _ => .nil
  | .mk _ k => k
/-- the six cells of a node at an address -/
structure NodeAt (w : World) (g o : Nat) (d : TD) : Prop where
  c0 : w.cell? ⟨g, o, none⟩ = some (.int .i64 d.kind)
  c1 : w.cell? ⟨g, o + 1, none⟩ = some (.int .i64 d.fn)
  c2 : w.cell? ⟨g, o + 2, none⟩ = some (.int .i64 d.axis)
  c3 : w.cell? ⟨g, o + 3, none⟩ = some (.string d.name)
  c4 : w.cell? ⟨g, o + 4, none⟩ = some (.slice d.np d.nums.length d.nc)
  c5 : w.cell? ⟨g, o + 5, none⟩ = some (.slice d.kp d.n d.kc)
theorem NodeAt.keep {w w' : World} {g o : Nat} {d : TD} (h : NodeAt w g o d) (hg : g < w.heap.size) (hb : Below w.heap.size w w') : NodeAt w' g o d :=
  have k := fun i => hb.cell (p := ⟨g, i, none⟩) hg
  ⟨(k _).trans h.c0, (k _).trans h.c1, (k _).trans h.c2, (k _).trans h.c3, (k _).trans h.c4, (k _).trans h.c5⟩
/-- a tree lies in a world -/
def TreeIn (w : World) : TV → Prop
  | .nil => False
  | .mk d kids => Ints w d.np d.nums ∧ d.n ≤ 9223372036854775807 ∧ (0 < d.n → ∃ g o, d.kp = some ⟨g, o, none⟩ ∧ g < w.heap.size ∧ ∀ i, i < d.n → NodeAt w g (o + i * 6) (kids i).d) ∧ ∀ i, i < d.n → TreeIn w (kids i)
theorem TreeIn.no {w : World} {p : Prop} (h : TreeIn w .nil) : p := False.elim h
theorem TreeIn.keep {w w' : World} (hb : Below w.heap.size w w') : ∀ {t : TV}, TreeIn w t → TreeIn w' t
  | .nil, h => h.no
  | .mk d kids, ⟨h1, h2, h3, h4⟩ => ⟨h1.keep hb, h2, fun h0 => by
      obtain ⟨g, o, e, hg, hk⟩ := h3 h0
      exact ⟨g, o, e, Nat.lt_of_lt_of_le hg hb.size, fun i hi => (hk i hi).keep hg hb⟩, fun i hi => (h4 i hi).keep hb⟩
theorem TreeIn.kid {w : World} {d : TD} {kids : Nat → TV} (h : TreeIn w (.mk d kids)) {k : Nat} (hk : k < d.n) : (∃ g o, d.kp = some ⟨g, o, none⟩ ∧ g < w.heap.size ∧ NodeAt w g (o + k * 6) (kids k).d) ∧ TreeIn w (kids k) := by
  obtain ⟨-, -, h3, h4⟩ := h
  obtain ⟨g, o, e, hg, hn⟩ := h3 (by omega)
  exact ⟨⟨g, o, e, hg, hn k hk⟩, h4 k hk⟩
theorem TreeIn.nums {w : World} {d : TD} {kids : Nat → TV} (h : TreeIn w (.mk d kids)) : Ints w d.np d.nums := h.1
theorem TreeIn.small {w : World} {d : TD} {kids : Nat → TV} (h : TreeIn w (.mk d kids)) : d.n ≤ 9223372036854775807 := h.2.1
theorem TreeIn.eta {w : World} : ∀ {t : TV}, TreeIn w t → t = .mk t.d t.kid
  | .nil, h => h.no
  | .mk _ _, _ => rfl
/-- a variable that holds a node -/
structure At6 (w : World) (g : Nat) (d : TD) : Prop where
  lt : g < w.heap.size
  c0 : w.cell? ⟨g, 0, none⟩ = some (.int .i64 d.kind)
  c1 : w.cell? ⟨g, 1, none⟩ = some (.int .i64 d.fn)
  c2 : w.cell? ⟨g, 2, none⟩ = some (.int .i64 d.axis)
  c3 : w.cell? ⟨g, 3, none⟩ = some (.string d.name)
  c4 : w.cell? ⟨g, 4, none⟩ = some (.slice d.np d.nums.length d.nc)
  c5 : w.cell? ⟨g, 5, none⟩ = some (.slice d.kp d.n d.kc)
theorem At6.keep {w w' : World} {g : Nat} {d : TD} (h : At6 w g d) (hb : Below w.heap.size w w') : At6 w' g d :=
  have k := fun i => hb.cell (p := ⟨g, i, none⟩) h.lt
  ⟨Nat.lt_of_lt_of_le h.lt hb.size, (k 0).trans h.c0, (k 1).trans h.c1, (k 2).trans h.c2, (k 3).trans h.c3, (k 4).trans h.c4, (k 5).trans h.c5⟩
theorem At6.new (w : World) (g : Nat) (d : TD) (T : TypeId) (hg : g = w.heap.size) : At6 (w.alloc (.cells #[.int .i64 d.kind, .int .i64 d.fn, .int .i64 d.axis, .string d.name, .slice d.np d.nums.length d.nc, .slice d.kp d.n d.kc] T)) g d := by
  subst hg
  exact ⟨by simp, by simp [go_sem], by simp [go_sem], by simp [go_sem], by simp [go_sem], by simp [go_sem], by simp [go_sem]⟩

def sumTo : Nat → (Nat → Nat) → Nat
  | 0, _ => 0
  | k + 1, f => sumTo k f + f k
def maxTo : Nat → (Nat → Nat) → Nat
  | 0, _ => 0
  | k + 1, f => max (maxTo k f) (f k)
theorem sumTo_le {f : Nat → Nat} {k n : Nat} (h : k ≤ n) : sumTo k f ≤ sumTo n f := by
  induction n with
  | zero => have : k = 0 := by omega
            subst this; exact Nat.le_refl _
  | succ n ih =>
    by_cases hk : k = n + 1
    · subst hk; exact Nat.le_refl _
    · have := ih (by omega)
      simp only [sumTo]; omega
theorem sumTo_at {f : Nat → Nat} {k n : Nat} (h : k < n) : sumTo k f + f k ≤ sumTo n f := sumTo_le (f := f) (k := k + 1) (n := n) h
theorem maxTo_le {f : Nat → Nat} {k n : Nat} (h : k ≤ n) : maxTo k f ≤ maxTo n f := by
  induction n with
  | zero => have : k = 0 := by omega
            subst this; exact Nat.le_refl _
  | succ n ih =>
    by_cases hk : k = n + 1
    · subst hk; exact Nat.le_refl _
    · have := ih (by omega)
      simp only [maxTo]; omega
theorem maxTo_at {f : Nat → Nat} {k n : Nat} (h : k < n) : f k ≤ maxTo n f := by
  have := maxTo_le (f := f) (k := k + 1) (n := n) h
  simp only [maxTo] at this
  omega
theorem max_le_sum {f g : Nat → Nat} (h : ∀ i, f i ≤ g i) : ∀ n, maxTo n f ≤ sumTo n g
  | 0 => Nat.le_refl _
  | n + 1 => by
    have := max_le_sum h n
    have := h n
    simp only [maxTo, sumTo]
    omega
/-- how many nodes a tree has; its depth; how many numbers it has -/
def sizeT : TV → Nat
  | .nil => 1
  | .mk d kids => 1 + sumTo d.n fun i => sizeT (kids i)
def depthT : TV → Nat
  | .nil => 1
  | .mk d kids => maxTo d.n (fun i => depthT (kids i)) + 1
def numsT : TV → Nat
  | .nil => 0
  | .mk d kids => d.nums.length + sumTo d.n fun i => numsT (kids i)
theorem sizeT_pos (t : TV) : 0 < sizeT t := by
  cases t with
  | nil => exact Nat.zero_lt_one
  | mk d kids => simp only [sizeT]; omega
theorem depth_le : ∀ t : TV, depthT t ≤ sizeT t
  | .nil => Nat.le_refl 1
  | .mk d kids => by
    have := max_le_sum (f := fun i => depthT (kids i)) (g := fun i => sizeT (kids i)) (fun i => depth_le (kids i)) d.n
    simp only [depthT, sizeT]
    omega
/-- how many nodes are left of m; -1 if there are too many -/
def leftN (s : Nat) (m : Int) : Int := if (s : Int) ≤ m then m - s else -1
theorem leftN_pos {s : Nat} {m : Int} (h : (s : Int) ≤ m) : leftN s m = m - s := if_pos h
theorem leftN_neg {s : Nat} {m : Int} (h : ¬ (s : Int) ≤ m) : leftN s m = -1 := if_neg h
theorem leftN_cases (s : Nat) (m : Int) : ((s : Int) ≤ m ∧ leftN s m = m - s) ∨ (¬ (s : Int) ≤ m ∧ leftN s m = -1) := by
  by_cases h : (s : Int) ≤ m
  · exact .inl ⟨h, leftN_pos h⟩
  · exact .inr ⟨h, leftN_neg h⟩
theorem leftN_add {s t : Nat} {m : Int} (h : 0 ≤ leftN s m) : leftN t (leftN s m) = leftN (s + t) m := by
  rcases leftN_cases s m with ⟨h1, h2⟩ | ⟨h1, h2⟩
  · rw [h2]
    rcases leftN_cases t (m - s) with ⟨h3, h4⟩ | ⟨h3, h4⟩
    · rw [h4, leftN_pos (by omega)]; omega
    · rw [h4, leftN_neg (by omega)]
  · omega
def leftT (t : TV) (m : Int) : Int := leftN (sizeT t) m
theorem wrap64_id {x : Int} (h1 : -9223372036854775808 ≤ x) (h2 : x ≤ 9223372036854775807) : wrap64 x = x := by unfold wrap64; omega
theorem wrapK_id {x : Int} (h1 : -9223372036854775808 ≤ x) (h2 : x ≤ 9223372036854775807) : IntKind.i64.wrap x = x := by
  have := wrap64_id h1 h2
  unfold wrap64 at this
  exact (IntKind.wrap_i64 x).trans this

set_option maxHeartbeats 1000000 in
theorem left_step (d : TD) (kids : Nat → TV) (ih : ∀ i (m : Int) w, 0 ≤ m → m ≤ 100000 → TreeIn w (kids i) → Calls Try.prog 27 #[.agg #[.int .i64 (kids i).d.kind, .int .i64 (kids i).d.fn, .int .i64 (kids i).d.axis, .string (kids i).d.name, .slice (kids i).d.np (kids i).d.nums.length (kids i).d.nc, .slice (kids i).d.kp (kids i).d.n (kids i).d.kc], .int .i64 m] w fun e w' => e = .returned (.int .i64 (leftT (kids i) m)) ∧ Below w.heap.size w w')
    (m : Int) (w : World) (h0 : 0 ≤ m) (h1 : m ≤ 100000) (h : TreeIn w (.mk d kids)) : Calls Try.prog 27 #[.agg #[.int .i64 d.kind, .int .i64 d.fn, .int .i64 d.axis, .string d.name, .slice d.np d.nums.length d.nc, .slice d.kp d.n d.kc], .int .i64 m] w fun e w' => e = .returned (.int .i64 (leftT (.mk d kids) m)) ∧ Below w.heap.size w w' := by
  have hba := below_alloc w (.cells #[.int .i64 d.kind, .int .i64 d.fn, .int .i64 d.axis, .string d.name, .slice d.np d.nums.length d.nc, .slice d.kp d.n d.kc] 25)
  have A := At6.new w _ d 25 rfl
  have hn := h.small
  have hw1 : wrap64 (m - 1) = m - 1 := wrap64_id (by omega) (by omega)
  have hw2 : IntKind.i64.wrap (m - 1) = m - 1 := wrapK_id (by omega) (by omega)
  have HT := Lib.hid (h.keep hba)
  have IH := Lib.hid ih
  clear h ih
  obtain ⟨W, hW⟩ : ∃ W, w.alloc (.cells #[.int .i64 d.kind, .int .i64 d.fn, .int .i64 d.axis, .string d.name, .slice d.np d.nums.length d.nc, .slice d.kp d.n d.kc] 25) = W := ⟨_, rfl⟩
  rw [hW] at A hba HT
  have HW := Lib.hid hW
  have hA5 := A.c5
  have hAlt := A.lt
  have HBA := Lib.hid hba
  clear hW A hba
  go_enter Try.func27, Try.ntmps27
  go_wp2_with fail
  rw [HW.out]
  clear HW
  go_loopw [1, 5] (fun x i wr => ∃ (k : Nat) (y : Int) (wz : World), wz = wr ∧ k ≤ d.n ∧ i = .int .i64 k ∧ x = .int .i64 y ∧ Hid (y = leftN (1 + sumTo k fun i => sizeT (kids i)) m) ∧ Hid (Below W.heap.size W wz)) (fun _ i _ => d.n - (intOf i).toNat)
  case atStart => exact ⟨0, m - 1, W, rfl, Nat.zero_le _, rfl, rfl, by rcases leftN_cases 1 m with ⟨e1, e2⟩ | ⟨e1, e2⟩ <;> simp only [Hid, sumTo, Nat.add_zero] <;> omega, Below.refl _ _⟩
  case round =>
    obtain ⟨k, y, wz, rfl, hk, rfl, rfl, hY, hB⟩ := hrel
    have hA5 := (hB.out.cell (p := ⟨w.heap.size, 5, none⟩) hAlt).trans hA5
    by_cases hlt : k < d.n
    · have hi1 : (k : Int) < (d.n : Int) := by omega
      by_cases hy0 : 0 ≤ y
      · have hd0 : decide (0 ≤ y) = true := by simpa using hy0
        have hym : y ≤ 100000 := by
          have := hY.out
          rcases leftN_cases (1 + sumTo k fun i => sizeT (kids i)) m with ⟨e1, e2⟩ | ⟨e1, e2⟩ <;> omega
        obtain ⟨⟨g, o, e1, hg, N⟩, hT⟩ := (HT.out.keep hB.out).kid hlt
        have c0 := N.c0
        have c1 := N.c1
        have c2 := N.c2
        have c3 := N.c3
        have c4 := N.c4
        have c5 := N.c5
        rw [e1] at hA5
        have HTk := Lib.hid hT
        have HY0 := Lib.hid hy0
        clear N hT hy0 e1
        go_wp2_with fail
        refine (IH.out k y wz HY0.out hym HTk.out).mono ?_
        rintro e w' ⟨rfl, hb'⟩
        have HN : Hid (leftT (kids k) y = leftN (1 + sumTo (k + 1) fun i => sizeT (kids i)) m) := by
          have h1 := hY.out
          have h2 := HY0.out
          rw [h1] at h2
          rw [Hid, leftT, h1, leftN_add h2]
          simp only [sumTo]
          congr 1
          omega
        have HB' := Lib.hid (below_t hB.out hb')
        clear c0 c1 c2 c3 c4 c5 hb'
        go_wp2_with fail
        go_roundw
        case rel => exact ⟨k + 1, _, w', rfl, by omega, by go_num, rfl, HN, HB'⟩
        case measure => simp [intOf]; omega
      · have hd0 : decide (0 ≤ y) = false := by simpa using hy0
        have HR : Hid (leftT (.mk d kids) m = y) := by
          have h1 := hY.out
          have h2 := sumTo_le (f := fun i => sizeT (kids i)) (Nat.le_of_lt hlt)
          rcases leftN_cases (1 + sumTo k fun i => sizeT (kids i)) m with ⟨e1, e2⟩ | ⟨e1, e2⟩
          · omega
          · rw [Hid, leftT, leftN_neg (by simp only [sizeT]; omega), h1, e2]
        clear hy0
        go_wp2_with fail
        go_ret
        exact ⟨ret_int HR.out.symm, below_t HBA.out hB.out⟩
    · have hi1 : ¬ (k : Int) < (d.n : Int) := by omega
      have HR : Hid (leftT (.mk d kids) m = y) := by
        have h1 := hY.out
        have h2 : k = d.n := by omega
        subst h2
        exact h1.symm
      go_wp2_with fail
      go_ret
      exact ⟨ret_int HR.out.symm, below_t HBA.out hB.out⟩
theorem left_any : ∀ (t : TV) (m : Int) (w : World), 0 ≤ m → m ≤ 100000 → TreeIn w t → Calls Try.prog 27 #[.agg #[.int .i64 t.d.kind, .int .i64 t.d.fn, .int .i64 t.d.axis, .string t.d.name, .slice t.d.np t.d.nums.length t.d.nc, .slice t.d.kp t.d.n t.d.kc], .int .i64 m] w fun e w' => e = .returned (.int .i64 (leftT t m)) ∧ Below w.heap.size w w'
  | .nil, _, _, _, _, h => h.no
  | .mk d kids, m, w, h0, h1, h => left_step d kids (fun i => left_any (kids i)) m w h0 h1 h
end Go.Proofs.Ytjehgcmcphgofaa
