/- Whether a tree is shallow: tree.shallow, with its closure. No condition beyond what each says. -/
import Derived.Test.YtjehgcmcphgofaaTr3
namespace Go.Proofs.Ytjehgcmcphgofaa
open Go.RowKit Go.Shelf
set_option linter.unusedVariables false
set_option linter.unusedSimpArgs false

/-- whether all numbers below n have a property -/
def everyTo : Nat → (Nat → Bool) → Bool
  | 0, _ => true
  | k + 1, f => everyTo k f && f k
theorem everyTo_iff {f : Nat → Bool} {n : Nat} : everyTo n f = true ↔ ∀ i, i < n → f i = true := by
  induction n with
  | zero => simp [everyTo]
  | succ n ih =>
    simp only [everyTo, Bool.and_eq_true, ih]
    constructor
    · rintro ⟨h1, h2⟩ i hi
      by_cases e : i = n
      · subst e; exact h2
      · exact h1 i (by omega)
    · intro h
      exact ⟨fun i hi => h i (by omega), h n (by omega)⟩
theorem everyTo_no {f : Nat → Bool} {n k : Nat} (hk : k < n) (h : f k = false) : everyTo n f = false := by
  cases hx : everyTo n f with
  | false => rfl
  | true => rw [everyTo_iff.1 hx k hk] at h; cases h

def IdxRet (n : Nat) (s : Nat → Bool) (w : World) (e : Ending) (w' : World) : Prop := (∃ r, e = .returned (.int .i64 r) ∧ decide (0 ≤ r) = !everyTo n s) ∧ Below w.heap.size w w'
set_option maxHeartbeats 1000000 in
theorem IndexFunc_tree (g : Nat) (lb : Value) (eg : ∀ args w, (callFunc g args).run Try.prog w = .ok (.enter g args) w) (d : TD) (kids : Nat → TV) (s : Nat → Bool) (w : World) (h : TreeIn w (.mk d kids))
    (hp : ∀ i, i < d.n → ∀ W', Below w.heap.size w W' → Calls Try.prog g #[.agg #[.int .i64 (kids i).d.kind, .int .i64 (kids i).d.fn, .int .i64 (kids i).d.axis, .string (kids i).d.name, .slice (kids i).d.np (kids i).d.nums.length (kids i).d.nc, .slice (kids i).d.kp (kids i).d.n (kids i).d.kc], lb] W' fun e w' => e = .returned (.bool (!s i)) ∧ Below W'.heap.size W' w') :
    Calls Try.prog 51 #[.slice d.kp d.n d.kc, .func (.func g) #[] #[lb]] w (IdxRet d.n s w) := by
  have hn := h.small
  have HT := Lib.hid h
  have Hp := Lib.hid hp
  clear h hp
  obtain ⟨q, hq⟩ : ∃ q, d.kp = q := ⟨_, rfl⟩
  have HQ := Lib.hid hq
  rw [hq]
  clear hq
  go_enter Try.func51, Try.ntmps51
  go_wp2_with fail
  go_loopw [8] (fun i wr => ∃ (k : Nat) (wz : World), wz = wr ∧ k ≤ d.n ∧ i = .int .i64 k ∧ Hid (everyTo k s = true) ∧ Hid (Below w.heap.size w wz)) (fun i _ => d.n - (intOf i).toNat)
  case atStart => exact ⟨0, w, rfl, Nat.zero_le _, rfl, rfl, Below.refl _ _⟩
  case round =>
    obtain ⟨k, wz, rfl, hk, rfl, hY, hB⟩ := hrel
    by_cases hlt : k < d.n
    · have hi1 : (k : Int) < (d.n : Int) := by omega
      obtain ⟨⟨gb, o, e1, hg, N⟩, hT⟩ := (HT.out.keep hB.out).kid hlt
      have c0 := N.c0
      have c1 := N.c1
      have c2 := N.c2
      have c3 := N.c3
      have c4 := N.c4
      have c5 := N.c5
      obtain rfl : q = some ⟨gb, o, none⟩ := HQ.out.symm.trans e1
      clear N hT e1
      go_wp2_with fail
      refine (Hp.out k hlt _ hB.out).mono ?_
      rintro e w' ⟨rfl, hb'⟩
      have HB' := Lib.hid (below_t hB.out hb')
      clear c0 c1 c2 c3 c4 c5 hb'
      cases hs : s k with
      | true =>
        have HN : Hid (everyTo (k + 1) s = true) := by
          simp only [Hid, everyTo]
          rw [hY.out, hs]; rfl
        clear hs
        go_wp2_with fail
        go_roundw
        case rel => exact ⟨k + 1, w', rfl, by omega, by go_num, HN, HB'⟩
        case measure => simp [intOf]; omega
      | false =>
        have HN : Hid (IdxRet d.n s w (.returned (.int .i64 k)) w') := ⟨⟨k, rfl, by rw [everyTo_no hlt hs]; simp⟩, HB'.out⟩
        clear hs
        go_wp2_with fail
        go_ret
        exact HN.out
    · have hi1 : ¬ (k : Int) < (d.n : Int) := by omega
      have HN : Hid (IdxRet d.n s w (.returned (.int .i64 (-1))) wz) := ⟨⟨-1, rfl, by
        have h2 : k = d.n := by omega
        subst h2
        rw [hY.out]; rfl⟩, hB.out⟩
      go_wp2_with fail
      go_ret
      exact HN.out
theorem ContainsFunc_tree (g : Nat) (lb : Value) (eg : ∀ args w, (callFunc g args).run Try.prog w = .ok (.enter g args) w) (d : TD) (kids : Nat → TV) (s : Nat → Bool) (r : Bool) (hr : (!everyTo d.n s) = r) (w : World) (h : TreeIn w (.mk d kids))
    (hp : ∀ i, i < d.n → ∀ W', Below w.heap.size w W' → Calls Try.prog g #[.agg #[.int .i64 (kids i).d.kind, .int .i64 (kids i).d.fn, .int .i64 (kids i).d.axis, .string (kids i).d.name, .slice (kids i).d.np (kids i).d.nums.length (kids i).d.nc, .slice (kids i).d.kp (kids i).d.n (kids i).d.kc], lb] W' fun e w' => e = .returned (.bool (!s i)) ∧ Below W'.heap.size W' w') :
    Calls Try.prog 40 #[.slice d.kp d.n d.kc, .func (.func g) #[] #[lb]] w fun e w' => e = .returned (.bool r) ∧ Below w.heap.size w w' := by
  have HI := Lib.hid (IndexFunc_tree g lb eg d kids s w h hp)
  have HR := Lib.hid hr
  clear h hp eg hr
  go_enter Try.func40, Try.ntmps40
  go_wp2_with fail
  refine HI.out.mono ?_
  rintro e w' ⟨⟨x, rfl, hx⟩, hb⟩
  have HX : Hid (decide (0 ≤ x) = r) := hx.trans HR.out
  clear hx
  go_wp2_with fail
  go_ret
  exact ⟨ret_bool HX.out, hb⟩

/-- whether a tree has at most some depth -/
def shallowT : TV → Int → Bool
  | .nil, m => decide (0 < m)
  | .mk d kids, m => decide (0 < m) && everyTo d.n fun i => shallowT (kids i) (m - 1)
theorem maxTo_all {f : Nat → Nat} {n : Nat} {m : Int} (hm : 0 ≤ m) : ((maxTo n f : Nat) : Int) ≤ m ↔ ∀ i, i < n → (f i : Int) ≤ m := by
  induction n with
  | zero => simp [maxTo]; exact hm
  | succ n ih =>
    simp only [maxTo]
    constructor
    · intro h i hi
      by_cases e : i = n
      · subst e; omega
      · exact ih.1 (by omega) i (by omega)
    · intro h
      have := ih.2 fun i hi => h i (by omega)
      have := h n (by omega)
      omega
theorem shallowT_mk (d : TD) (kids : Nat → TV) (m : Int) : shallowT (.mk d kids) m = (decide (0 < m) && everyTo d.n fun i => shallowT (kids i) (m - 1)) := rfl
theorem depthT_mk (d : TD) (kids : Nat → TV) : depthT (.mk d kids) = maxTo d.n (fun i => depthT (kids i)) + 1 := rfl
theorem shallow_depth : ∀ (t : TV) (m : Int), shallowT t m = decide ((depthT t : Int) ≤ m)
  | .nil, m => by
    show decide (0 < m) = decide (((1 : Nat) : Int) ≤ m)
    congr 1
  | .mk d kids, m => by
    rw [Bool.eq_iff_iff]
    rw [shallowT_mk, depthT_mk]
    simp only [Bool.and_eq_true, decide_eq_true_eq, everyTo_iff]
    constructor
    · rintro ⟨h1, h2⟩
      have := (maxTo_all (f := fun i => depthT (kids i)) (n := d.n) (m := m - 1) (by omega)).2 fun i hi => by
        have := h2 i hi
        rw [shallow_depth (kids i)] at this
        exact of_decide_eq_true this
      omega
    · intro h
      refine ⟨by omega, fun i hi => ?_⟩
      rw [shallow_depth (kids i)]
      have := (maxTo_all (f := fun i => depthT (kids i)) (n := d.n) (m := m - 1) (by omega)).1 (by omega) i hi
      exact decide_eq_true this

theorem box_cell (w : World) (v : Value) (T : TypeId) : (w.alloc (.cells #[v] T)).cell? ⟨w.heap.size, 0, none⟩ = some v := by simp [go_sem]
set_option maxHeartbeats 1000000 in
theorem shallow1_step (t : TV) (m : Int) (r : Bool) (b : Nat) (W : World) (hb : b < W.heap.size) (hc : W.cell? ⟨b, 0, none⟩ = some (.int .i64 m)) (h0 : 0 < m) (h1 : m ≤ 1000) (h : TreeIn W t)
    (ih : ∀ w, TreeIn w t → Calls Try.prog 29 #[.agg #[.int .i64 t.d.kind, .int .i64 t.d.fn, .int .i64 t.d.axis, .string t.d.name, .slice t.d.np t.d.nums.length t.d.nc, .slice t.d.kp t.d.n t.d.kc], .int .i64 (m - 1)] w fun e w' => e = .returned (.bool r) ∧ Below w.heap.size w w') :
    Calls Try.prog 41 #[.agg #[.int .i64 t.d.kind, .int .i64 t.d.fn, .int .i64 t.d.axis, .string t.d.name, .slice t.d.np t.d.nums.length t.d.nc, .slice t.d.kp t.d.n t.d.kc], .pointer (some ⟨b, 0, none⟩)] W fun e w' => e = .returned (.bool (!r)) ∧ Below W.heap.size W w' := by
  have hba := below_alloc W (.cells #[.int .i64 t.d.kind, .int .i64 t.d.fn, .int .i64 t.d.axis, .string t.d.name, .slice t.d.np t.d.nums.length t.d.nc, .slice t.d.kp t.d.n t.d.kc] 25)
  have ht := h.keep hba
  have hw1 : wrap64 (m - 1) = m - 1 := wrap64_id (by omega) (by omega)
  have hw2 : IntKind.i64.wrap (m - 1) = m - 1 := wrapK_id (by omega) (by omega)
  have hc1 := (hba.cell (p := ⟨b, 0, none⟩) hb).trans hc
  have hne : b ≠ W.heap.size := by omega
  have IH := Lib.hid ih
  clear ih h
  go_enter Try.func41, Try.ntmps41
  go_wp2_with fail
  refine (IH.out _ ht).mono ?_
  rintro e w' ⟨rfl, hb'⟩
  go_wp2_with fail
  go_ret
  exact ⟨rfl, below_t hba hb'⟩
set_option maxHeartbeats 1000000 in
theorem shallow_step (d : TD) (kids : Nat → TV) (ih : ∀ i (m : Int) w r, 0 ≤ m → m ≤ 1000 → shallowT (kids i) m = r → TreeIn w (kids i) → Calls Try.prog 29 #[.agg #[.int .i64 (kids i).d.kind, .int .i64 (kids i).d.fn, .int .i64 (kids i).d.axis, .string (kids i).d.name, .slice (kids i).d.np (kids i).d.nums.length (kids i).d.nc, .slice (kids i).d.kp (kids i).d.n (kids i).d.kc], .int .i64 m] w fun e w' => e = .returned (.bool r) ∧ Below w.heap.size w w')
    (m : Int) (w : World) (r : Bool) (h0 : 0 ≤ m) (h1 : m ≤ 1000) (hr : shallowT (.mk d kids) m = r) (h : TreeIn w (.mk d kids)) : Calls Try.prog 29 #[.agg #[.int .i64 d.kind, .int .i64 d.fn, .int .i64 d.axis, .string d.name, .slice d.np d.nums.length d.nc, .slice d.kp d.n d.kc], .int .i64 m] w fun e w' => e = .returned (.bool r) ∧ Below w.heap.size w w' := by
  have A := At6.new w _ d 25 rfl
  have ba := below_alloc w (.cells #[.int .i64 d.kind, .int .i64 d.fn, .int .i64 d.axis, .string d.name, .slice d.np d.nums.length d.nc, .slice d.kp d.n d.kc] 25)
  have bm := below_alloc (w.alloc (.cells #[.int .i64 d.kind, .int .i64 d.fn, .int .i64 d.axis, .string d.name, .slice d.np d.nums.length d.nc, .slice d.kp d.n d.kc] 25)) (.cells #[.int .i64 m] 3)
  have A := A.keep bm
  have hc := box_cell (w.alloc (.cells #[.int .i64 d.kind, .int .i64 d.fn, .int .i64 d.axis, .string d.name, .slice d.np d.nums.length d.nc, .slice d.kp d.n d.kc] 25)) (.int .i64 m) 3
  have hz : (w.alloc (.cells #[.int .i64 d.kind, .int .i64 d.fn, .int .i64 d.axis, .string d.name, .slice d.np d.nums.length d.nc, .slice d.kp d.n d.kc] 25)).heap.size = w.heap.size + 1 := by simp
  rw [hz] at hc
  have hb := below_t ba bm
  have hlt : w.heap.size + 1 < ((w.alloc (.cells #[.int .i64 d.kind, .int .i64 d.fn, .int .i64 d.axis, .string d.name, .slice d.np d.nums.length d.nc, .slice d.kp d.n d.kc] 25)).alloc (.cells #[.int .i64 m] 3)).heap.size := by simp
  obtain ⟨W, hW⟩ : ∃ W, (w.alloc (.cells #[.int .i64 d.kind, .int .i64 d.fn, .int .i64 d.axis, .string d.name, .slice d.np d.nums.length d.nc, .slice d.kp d.n d.kc] 25)).alloc (.cells #[.int .i64 m] 3) = W := ⟨_, rfl⟩
  rw [hW] at A hc hb hlt
  have HW := Lib.hid hW
  have HT := Lib.hid (h.keep hb)
  have hA5 := A.c5
  have HR : Hid (r = (decide (0 < m) && everyTo d.n fun i => shallowT (kids i) (m - 1))) := by rw [Hid, ← hr, shallowT_mk]
  have IH := Lib.hid ih
  have HB := Lib.hid hb
  clear hW A ba bm h ih hr hz hb
  by_cases hm : 0 < m
  · have hd : decide (0 < m) = true := by simpa using hm
    have HR : Hid (r = everyTo d.n fun i => shallowT (kids i) (m - 1)) := by rw [Hid, HR.out, hd]; rfl
    have HM := Lib.hid hm
    clear hm
    obtain ⟨y, hy⟩ : ∃ y, (!everyTo d.n fun i => shallowT (kids i) (m - 1)) = y := ⟨_, rfl⟩
    have HY := Lib.hid hy
    have HRY : Hid (r = !y) := by rw [Hid, ← hy, HR.out, Bool.not_not]
    have HC := Lib.hid hc
    clear hy
    go_enter Try.func29, Try.ntmps29
    go_wp2_with fail
    rw [HW.out]
    clear HW
    go_wp2_with fail
    refine (ContainsFunc_tree 41 _ (enters_of Try.func41 (by kernel_rfl) rfl) d kids (fun i => shallowT (kids i) (m - 1)) y HY.out W HT.out fun i hi W' hW' => ?_).mono ?_
    · exact shallow1_step (kids i) m _ (w.heap.size + 1) W' (Nat.lt_of_lt_of_le hlt hW'.size) ((hW'.cell (p := ⟨w.heap.size + 1, 0, none⟩) hlt).trans HC.out) HM.out h1 (HT.out.keep hW' |>.kid hi).2
        (fun w2 ht => IH.out i (m - 1) w2 _ (by have := HM.out; omega) (by omega) rfl ht)
    rintro e w' ⟨rfl, hb'⟩
    clear hc hA5
    go_wp2_with fail
    go_ret
    exact ⟨ret_bool HRY.out.symm, below_t HB.out hb'⟩
  · have hd : decide (0 < m) = false := by simpa using hm
    have HR : Hid (r = false) := by rw [Hid, HR.out, hd]; rfl
    clear hm
    go_enter Try.func29, Try.ntmps29
    go_wp2_with fail
    rw [HW.out]
    clear HW
    go_wp2_with fail
    go_ret
    exact ⟨ret_bool HR.out.symm, HB.out⟩
theorem shallow_any : ∀ (t : TV) (m : Int) (w : World) (r : Bool), 0 ≤ m → m ≤ 1000 → shallowT t m = r → TreeIn w t → Calls Try.prog 29 #[.agg #[.int .i64 t.d.kind, .int .i64 t.d.fn, .int .i64 t.d.axis, .string t.d.name, .slice t.d.np t.d.nums.length t.d.nc, .slice t.d.kp t.d.n t.d.kc], .int .i64 m] w fun e w' => e = .returned (.bool r) ∧ Below w.heap.size w w'
  | .nil, _, _, _, _, _, _, h => h.no
  | .mk d kids, m, w, r, h0, h1, hr, h => shallow_step d kids (fun i m w r a b c e => shallow_any (kids i) m w r a b c e) m w r h0 h1 hr h
end Go.Proofs.Ytjehgcmcphgofaa
