/- Whether two trees are the same: tree.Same. No condition beyond what each says. -/
import Derived.Test.YtjehgcmcphgofaaTr14
namespace Go.Proofs.Ytjehgcmcphgofaa
open Go.RowKit Go.Shelf
set_option linter.unusedVariables false
set_option linter.unusedSimpArgs false

/-- whether two lists are one -/
def eqS (xs ys : List Int) : Bool := decide (xs = ys)
theorem SlicesEqual_any (a b : Option Addr) (c d : Nat) (xs ys : List Int) (w : World) (h : Ints w a xs) (h' : Ints w b ys) :
    Calls Try.prog 33 #[.slice a xs.length c, .slice b ys.length d] w fun e w' => e = .returned (.bool (eqS xs ys)) ∧ ∃ n, w' = w.drewN n := by
  have hn := h.small
  have hn' := h'.small
  by_cases hlen : xs.length = ys.length
  · have hlb : ((xs.length : Int) != (ys.length : Int)) = false := by simp [hlen]
    have Hlen := Lib.hid hlen
    have hle : xs.length ≤ ys.length := by omega
    have hge : ys.length ≤ xs.length := by omega
    clear hlen
    go_enter Try.func33, Try.ntmps33
    go_wp2
    go_loopw [13] (fun i wr => ∃ k m : Nat, k ≤ xs.length ∧ i = .int .i64 k ∧ wr = w.drewN m ∧ Hid (xs.take k = ys.take k)) (fun i _ => xs.length - (intOf i).toNat)
    case atStart => exact ⟨0, 0, Nat.zero_le _, rfl, rfl, by simp [Hid]⟩
    case round =>
      obtain ⟨k, m, hk, rfl, rfl, hI⟩ := hrel
      by_cases hlt : k < xs.length
      · have hlt' : k < ys.length := by omega
        obtain ⟨b1, o1, rfl, -, hc⟩ := h.at hlt
        obtain ⟨b2, o2, rfl, -, hc'⟩ := h'.at hlt'
        have hi1 : (k : Int) < (xs.length : Int) := by omega
        have hi2 : (k : Int) < (ys.length : Int) := by omega
        by_cases hx : nth xs k = nth ys k
        · have hxb : (nth xs k != nth ys k) = false := by simp [hx]
          have Hx := Lib.hid hx
          clear hx
          have Hi : Hid (xs.take (k + 1) = ys.take (k + 1)) := by unfold Hid; rw [take_nth hlt, take_nth hlt', hI.out, Hx.out]
          go_wp2
          go_quiet (fail)
          go_wp2
          go_roundw
          case rel => exact ⟨k + 1, _, by omega, by go_num, rfl, Hi⟩
          case measure => simp [intOf]; omega
        · have hxb : (nth xs k != nth ys k) = true := by simp [hx]
          have Hi : Hid (eqS xs ys = false) := by
            unfold Hid eqS
            rw [decide_eq_false_iff_not]
            rintro rfl
            exact hx rfl
          clear hx
          go_wp2
          go_quiet (fail)
          go_wp2
          go_ret
          exact ⟨ret_bool Hi.out.symm, quiet_add _ _ _⟩
      · have Hi : Hid (eqS xs ys = true) := by
          have := hI.out
          rw [List.take_of_length_le (by omega), List.take_of_length_le (by omega)] at this
          simp [Hid, eqS, this]
        go_wp2
        go_ret
        exact ⟨ret_bool Hi.out.symm, _, rfl⟩
  · have hlb : ((xs.length : Int) != (ys.length : Int)) = true := by simp; omega
    have Hi : Hid (eqS xs ys = false) := by
      unfold Hid eqS
      rw [decide_eq_false_iff_not]
      rintro rfl
      exact hlen rfl
    go_enter Try.func33, Try.ntmps33
    go_wp2
    go_ret
    exact ⟨ret_bool Hi.out.symm, 0, rfl⟩


/-- whether two nodes have the same kind, function, axis and name -/
def headB (d e : TD) : Bool := decide (d.kind = e.kind) && (decide (d.fn = e.fn) && (decide (d.axis = e.axis) && decide (d.name = e.name)))
/-- whether two trees are the same -/
def sameT : TV → TV → Bool
  | .nil, .nil => true
  | .nil, .mk _ _ => false
  | .mk _ _, .nil => false
  | .mk d kids, .mk e kids' => headB d e && (eqS d.nums e.nums && (decide (d.n = e.n) && everyTo d.n fun i => sameT (kids i) (kids' i)))
theorem sameT_mk (d : TD) (kids : Nat → TV) (e : TD) (kids' : Nat → TV) : sameT (.mk d kids) (.mk e kids') = (headB d e && (eqS d.nums e.nums && (decide (d.n = e.n) && everyTo d.n fun i => sameT (kids i) (kids' i)))) := rfl
theorem sameT_refl : ∀ t : TV, sameT t t = true
  | .nil => rfl
  | .mk d kids => by
    rw [sameT_mk]
    simp [headB, eqS, everyTo_iff]
    intro i hi
    exact sameT_refl (kids i)

set_option maxHeartbeats 1000000 in
theorem EqualFunc_tree (d : TD) (kids : Nat → TV) (d' : TD) (kids' : Nat → TV) (s : Nat → Bool) (w : World) (h : TreeIn w (.mk d kids)) (h' : TreeIn w (.mk d' kids')) (r : Bool) (hr : (decide (d.n = d'.n) && everyTo d.n s) = r)
    (hp : ∀ i, i < d.n → i < d'.n → ∀ W', Below w.heap.size w W' → Calls Try.prog 16 #[.agg #[.int .i64 (kids i).d.kind, .int .i64 (kids i).d.fn, .int .i64 (kids i).d.axis, .string (kids i).d.name, .slice (kids i).d.np (kids i).d.nums.length (kids i).d.nc, .slice (kids i).d.kp (kids i).d.n (kids i).d.kc], .agg #[.int .i64 (kids' i).d.kind, .int .i64 (kids' i).d.fn, .int .i64 (kids' i).d.axis, .string (kids' i).d.name, .slice (kids' i).d.np (kids' i).d.nums.length (kids' i).d.nc, .slice (kids' i).d.kp (kids' i).d.n (kids' i).d.kc]] W' fun e w' => e = .returned (.bool (s i)) ∧ Below W'.heap.size W' w') :
    Calls Try.prog 34 #[.slice d.kp d.n d.kc, .slice d'.kp d'.n d'.kc, .func (.func 16) #[] #[]] w fun e w' => e = .returned (.bool r) ∧ Below w.heap.size w w' := by
  have hn := h.small
  have hn' := h'.small
  have HT := Lib.hid h
  have HT' := Lib.hid h'
  have Hp := Lib.hid hp
  have HR := Lib.hid hr
  clear h h' hp hr
  by_cases hlen : d.n = d'.n
  · have hlb : ((d.n : Int) != (d'.n : Int)) = false := by simp [hlen]
    have HLe := Lib.hid hlen
    have HR : Hid (r = everyTo d.n s) := by rw [Hid, ← HR.out, decide_eq_true hlen]; rfl
    clear hlen
    obtain ⟨q, hq⟩ : ∃ q, d.kp = q := ⟨_, rfl⟩
    obtain ⟨q', hq'⟩ : ∃ q, d'.kp = q := ⟨_, rfl⟩
    have HQ := Lib.hid hq
    have HQ' := Lib.hid hq'
    rw [hq, hq']
    clear hq hq'
    go_enter Try.func34, Try.ntmps34
    go_wp2_with fail
    go_loopw [17] (fun i wr => ∃ (k : Nat) (wz : World), wz = wr ∧ k ≤ d.n ∧ i = .int .i64 k ∧ Hid (everyTo k s = true) ∧ Hid (Below w.heap.size w wz)) (fun i _ => d.n - (intOf i).toNat)
    case atStart => exact ⟨0, w, rfl, Nat.zero_le _, rfl, rfl, Below.refl _ _⟩
    case round =>
      obtain ⟨k, wz, rfl, hk, rfl, hY, hB⟩ := hrel
      by_cases hlt : k < d.n
      · have hlt' : k < d'.n := by rw [← HLe.out]; exact hlt
        have hi1 : (k : Int) < (d.n : Int) := by omega
        have hi2 : (k : Int) < (d'.n : Int) := by omega
        obtain ⟨⟨gb, o, e1, hg, N⟩, -⟩ := (HT.out.keep hB.out).kid hlt
        have ba := below_alloc wz (.cells #[.int .i64 (kids k).d.kind, .int .i64 (kids k).d.fn, .int .i64 (kids k).d.axis, .string (kids k).d.name, .slice (kids k).d.np (kids k).d.nums.length (kids k).d.nc, .slice (kids k).d.kp (kids k).d.n (kids k).d.kc] 25)
        obtain ⟨⟨gb', o', e1', hg', N'⟩, -⟩ := (HT'.out.keep (below_t hB.out ba)).kid hlt'
        have X := (At6.new wz _ (kids k).d 25 rfl).keep (below_alloc _ (.cells #[.int .i64 (kids' k).d.kind, .int .i64 (kids' k).d.fn, .int .i64 (kids' k).d.axis, .string (kids' k).d.name, .slice (kids' k).d.np (kids' k).d.nums.length (kids' k).d.nc, .slice (kids' k).d.kp (kids' k).d.n (kids' k).d.kc] 25))
        have HB2 := Lib.hid (below_t (below_t hB.out ba) (below_alloc _ (.cells #[.int .i64 (kids' k).d.kind, .int .i64 (kids' k).d.fn, .int .i64 (kids' k).d.axis, .string (kids' k).d.name, .slice (kids' k).d.np (kids' k).d.nums.length (kids' k).d.nc, .slice (kids' k).d.kp (kids' k).d.n (kids' k).d.kc] 25)))
        have c0 := N.c0
        have c1 := N.c1
        have c2 := N.c2
        have c3 := N.c3
        have c4 := N.c4
        have c5 := N.c5
        have k0 := N'.c0
        have k1 := N'.c1
        have k2 := N'.c2
        have k3 := N'.c3
        have k4 := N'.c4
        have k5 := N'.c5
        have hX0 := X.c0
        have hX1 := X.c1
        have hX2 := X.c2
        have hX3 := X.c3
        have hX4 := X.c4
        have hX5 := X.c5
        obtain rfl : q = some ⟨gb, o, none⟩ := HQ.out.symm.trans e1
        obtain rfl : q' = some ⟨gb', o', none⟩ := HQ'.out.symm.trans e1'
        clear N N' X e1 e1' ba
        go_wp2_with fail
        refine (Hp.out k hlt hlt' _ HB2.out).mono ?_
        rintro e w' ⟨rfl, hb'⟩
        have HB' := Lib.hid (below_t HB2.out hb')
        clear c0 c1 c2 c3 c4 c5 k0 k1 k2 k3 k4 k5 hb'
        clear hX0
        clear hX1
        clear hX2
        clear hX3
        clear hX4
        clear hX5
        cases hs : s k with
        | true =>
          have HN : Hid (everyTo (k + 1) s = true) := by
            simp only [Hid, everyTo]
            rw [hY.out, hs]; rfl
          clear hs
          go_wp2_with fail
          go_roundw
          case rel => exact ⟨k + 1, w', rfl, by omega, by go_num, HN, HB'⟩
          case measure => simp [intOf]; omega
        | false =>
          have HN : Hid (r = false) := by rw [Hid, HR.out, everyTo_no hlt hs]
          clear hs
          go_wp2_with fail
          go_ret
          exact ⟨ret_bool HN.out.symm, HB'.out⟩
      · have hi1 : ¬ (k : Int) < (d.n : Int) := by omega
        have HN : Hid (r = true) := by
          have h2 : k = d.n := by omega
          subst h2
          rw [Hid, HR.out, hY.out]
        go_wp2_with fail
        go_ret
        exact ⟨ret_bool HN.out.symm, hB.out⟩
  · have hlb : ((d.n : Int) != (d'.n : Int)) = true := by simp; omega
    have HR : Hid (r = false) := by rw [Hid, ← HR.out, decide_eq_false hlen]; rfl
    clear hlen
    go_enter Try.func34, Try.ntmps34
    go_wp2_with fail
    go_ret
    exact ⟨ret_bool HR.out.symm, Below.refl _ _⟩

theorem Equal64_is (xs ys : List Int) (r : Bool) (hr : eqS xs ys = r) (a b : Option Addr) (c d : Nat) (w : World) (h : Ints w a xs) (h' : Ints w b ys) :
    Calls Try.prog 33 #[.slice a xs.length c, .slice b ys.length d] w fun e w' => e = .returned (.bool r) ∧ Below w.heap.size w w' :=
  (SlicesEqual_any a b c d xs ys w h h').mono fun e w' ⟨he, n, hw⟩ => ⟨by rw [he, hr], hw ▸ below_drewN _ _ _⟩
theorem name_ne {a b : ByteArray} (h : a ≠ b) : (a.toList == b.toList) = false := by
  cases hx : (a.toList == b.toList) with
  | false => rfl
  | true =>
    rw [beq_iff_eq, ByteArray.toList_eq, ByteArray.toList_eq] at hx
    refine absurd ?_ h
    cases a; cases b
    simpa using hx
theorem two_nodes (w : World) (d e : TD) : ∃ W, (w.alloc (.cells #[.int .i64 d.kind, .int .i64 d.fn, .int .i64 d.axis, .string d.name, .slice d.np d.nums.length d.nc, .slice d.kp d.n d.kc] 25)).alloc (.cells #[.int .i64 e.kind, .int .i64 e.fn, .int .i64 e.axis, .string e.name, .slice e.np e.nums.length e.nc, .slice e.kp e.n e.kc] 25) = W ∧ Below w.heap.size w W ∧ At6 W w.heap.size d ∧ At6 W (w.heap.size + 1) e := by
  have b1 := below_alloc w (.cells #[.int .i64 d.kind, .int .i64 d.fn, .int .i64 d.axis, .string d.name, .slice d.np d.nums.length d.nc, .slice d.kp d.n d.kc] 25)
  have b2 := below_alloc (w.alloc (.cells #[.int .i64 d.kind, .int .i64 d.fn, .int .i64 d.axis, .string d.name, .slice d.np d.nums.length d.nc, .slice d.kp d.n d.kc] 25)) (.cells #[.int .i64 e.kind, .int .i64 e.fn, .int .i64 e.axis, .string e.name, .slice e.np e.nums.length e.nc, .slice e.kp e.n e.kc] 25)
  exact ⟨_, rfl, below_t b1 b2, (At6.new w _ d 25 rfl).keep b2, At6.new _ (w.heap.size + 1) e 25 (by simp)⟩

set_option maxHeartbeats 1000000 in
theorem Same_step (d : TD) (kids : Nat → TV) (ih : ∀ i (u : TV) w r, sameT (kids i) u = r → TreeIn w (kids i) → TreeIn w u → Calls Try.prog 16 #[.agg #[.int .i64 (kids i).d.kind, .int .i64 (kids i).d.fn, .int .i64 (kids i).d.axis, .string (kids i).d.name, .slice (kids i).d.np (kids i).d.nums.length (kids i).d.nc, .slice (kids i).d.kp (kids i).d.n (kids i).d.kc], .agg #[.int .i64 u.d.kind, .int .i64 u.d.fn, .int .i64 u.d.axis, .string u.d.name, .slice u.d.np u.d.nums.length u.d.nc, .slice u.d.kp u.d.n u.d.kc]] w fun e w' => e = .returned (.bool r) ∧ Below w.heap.size w w')
    (e : TD) (kids' : Nat → TV) (w : World) (r : Bool) (hr : sameT (.mk d kids) (.mk e kids') = r) (h : TreeIn w (.mk d kids)) (h' : TreeIn w (.mk e kids')) : Calls Try.prog 16 #[.agg #[.int .i64 d.kind, .int .i64 d.fn, .int .i64 d.axis, .string d.name, .slice d.np d.nums.length d.nc, .slice d.kp d.n d.kc], .agg #[.int .i64 e.kind, .int .i64 e.fn, .int .i64 e.axis, .string e.name, .slice e.np e.nums.length e.nc, .slice e.kp e.n e.kc]] w fun e w' => e = .returned (.bool r) ∧ Below w.heap.size w w' := by
  obtain ⟨W, hW, hb, A, B⟩ := two_nodes w d e
  have HW := Lib.hid hW
  have HT := Lib.hid (h.keep hb)
  have HT' := Lib.hid (h'.keep hb)
  have HA := Lib.hid A
  have HBB := Lib.hid B
  have HB := Lib.hid hb
  obtain ⟨x, hx⟩ : ∃ x, eqS d.nums e.nums = x := ⟨_, rfl⟩
  obtain ⟨y, hy⟩ : ∃ y, (decide (d.n = e.n) && everyTo d.n fun i => sameT (kids i) (kids' i)) = y := ⟨_, rfl⟩
  have HR0 : Hid (r = (headB d e && (x && y))) := by rw [Hid, ← hr, sameT_mk, hx, hy]
  have HX := Lib.hid hx
  have HY := Lib.hid hy
  have IH := Lib.hid ih
  have hA0 := A.c0
  have hA1 := A.c1
  have hA2 := A.c2
  have hA3 := A.c3
  have hA4 := A.c4
  have hA5 := A.c5
  have hB0 := B.c0
  have hB1 := B.c1
  have hB2 := B.c2
  have hB3 := B.c3
  have hB4 := B.c4
  have hB5 := B.c5
  clear hW A B hb hx hy h h' ih hr
  by_cases hk : d.kind = e.kind
  rotate_left
  · have ek : (d.kind == e.kind) = false := by rw [beq_eq_false_iff_ne]; exact hk
    have HR : Hid (r = false) := by rw [Hid, HR0.out, headB, decide_eq_false hk]; simp
    clear hk
    go_enter Try.func16, Try.ntmps16
    go_wp2_with fail
    rw [HW.out]
    clear HW
    go_wp2_with fail
    go_ret
    exact ⟨ret_bool HR.out.symm, HB.out⟩
  have ek : (d.kind == e.kind) = true := by simp [hk]
  have Hk := Lib.hid hk
  clear hk
  by_cases hf : d.fn = e.fn
  rotate_left
  · have ef : (d.fn == e.fn) = false := by rw [beq_eq_false_iff_ne]; exact hf
    have HR : Hid (r = false) := by rw [Hid, HR0.out, headB, decide_eq_false hf]; simp
    clear hf
    go_enter Try.func16, Try.ntmps16
    go_wp2_with fail
    rw [HW.out]
    clear HW
    go_wp2_with fail
    go_ret
    exact ⟨ret_bool HR.out.symm, HB.out⟩
  have ef : (d.fn == e.fn) = true := by simp [hf]
  have Hf := Lib.hid hf
  clear hf
  by_cases hx : d.axis = e.axis
  rotate_left
  · have ex : (d.axis == e.axis) = false := by rw [beq_eq_false_iff_ne]; exact hx
    have HR : Hid (r = false) := by rw [Hid, HR0.out, headB, decide_eq_false hx]; simp
    clear hx
    go_enter Try.func16, Try.ntmps16
    go_wp2_with fail
    rw [HW.out]
    clear HW
    go_wp2_with fail
    go_ret
    exact ⟨ret_bool HR.out.symm, HB.out⟩
  have ex : (d.axis == e.axis) = true := by simp [hx]
  have Hx := Lib.hid hx
  clear hx
  by_cases hm : d.name = e.name
  rotate_left
  · have em := name_ne hm
    have HR : Hid (r = false) := by rw [Hid, HR0.out, headB, decide_eq_false hm]; simp
    clear hm
    go_enter Try.func16, Try.ntmps16
    go_wp2_with fail
    rw [HW.out]
    clear HW
    go_wp2_with fail
    go_ret
    exact ⟨ret_bool HR.out.symm, HB.out⟩
  have em := name_eq hm
  have HR : Hid (r = (x && y)) := by rw [Hid, HR0.out, headB, decide_eq_true Hk.out, decide_eq_true Hf.out, decide_eq_true Hx.out, decide_eq_true hm]; rfl
  clear hm
  go_enter Try.func16, Try.ntmps16
  go_wp2_with fail
  rw [HW.out]
  clear HW
  go_wp2_with fail
  refine (Equal64_is d.nums e.nums x HX.out _ _ _ _ W HT.out.nums HT'.out.nums).mono ?_
  rintro e1 w1 ⟨rfl, hb1⟩
  clear hA0
  clear hA1
  clear hA2
  clear hA3
  clear hA4
  clear hA5
  clear hB0
  clear hB1
  clear hB2
  clear hB3
  clear hB4
  clear hB5
  have A := HA.out.keep hb1
  have B := HBB.out.keep hb1
  have hA5 := A.c5
  have hB5 := B.c5
  have HT := Lib.hid (HT.out.keep hb1)
  have HT' := Lib.hid (HT'.out.keep hb1)
  have HB := Lib.hid (below_t HB.out hb1)
  clear A B hb1
  cases x with
  | false =>
    have HR : Hid (r = false) := HR.out
    go_wp2_with fail
    go_ret
    exact ⟨ret_bool HR.out.symm, HB.out⟩
  | true =>
    have HR : Hid (r = y) := HR.out
    go_wp2_with fail
    refine (EqualFunc_tree d kids e kids' (fun i => sameT (kids i) (kids' i)) w1 HT.out HT'.out y HY.out fun i hi hi' W' hW' => IH.out i (kids' i) W' _ rfl (HT.out.keep hW' |>.kid hi).2 (HT'.out.keep hW' |>.kid hi').2).mono ?_
    rintro e2 w2 ⟨rfl, hb2⟩
    have HB := Lib.hid (below_t HB.out hb2)
    clear hA5 hB5 hb2
    go_wp2_with fail
    go_ret
    exact ⟨ret_bool HR.out.symm, HB.out⟩
theorem Same_any : ∀ (t u : TV) (w : World) (r : Bool), sameT t u = r → TreeIn w t → TreeIn w u → Calls Try.prog 16 #[.agg #[.int .i64 t.d.kind, .int .i64 t.d.fn, .int .i64 t.d.axis, .string t.d.name, .slice t.d.np t.d.nums.length t.d.nc, .slice t.d.kp t.d.n t.d.kc], .agg #[.int .i64 u.d.kind, .int .i64 u.d.fn, .int .i64 u.d.axis, .string u.d.name, .slice u.d.np u.d.nums.length u.d.nc, .slice u.d.kp u.d.n u.d.kc]] w fun e w' => e = .returned (.bool r) ∧ Below w.heap.size w w'
  | .nil, _, _, _, _, h, _ => h.no
  | .mk _ _, .nil, _, _, _, _, h => h.no
  | .mk d kids, .mk e kids', w, r, hr, h, h' => Same_step d kids (fun i u w r a b c => Same_any (kids i) u w r a b c) e kids' w r hr h h'
end Go.Proofs.Ytjehgcmcphgofaa
