/- OdometerSplits, walked. No condition. -/
import Derived.Test.YthkfjiioekhkhaaAwake04
namespace Go.Proofs.Ythkfjiioekhkhaa
open Go.RowKit Go.Shelf
set_option linter.unusedVariables false
set_option linter.unusedSimpArgs false

/-- the product of lengths -/
def pN : List Int → Nat
  | [] => 1
  | x :: s => x.toNat * pN s
theorem pN_app : ∀ a b : List Int, pN (a ++ b) = pN a * pN b
  | [], b => by rw [List.nil_append, pN, Nat.one_mul]
  | x :: a, b => by rw [List.cons_append, pN, pN, pN_app a b, Nat.mul_assoc]
theorem foldA_len : ∀ (s : List Int) (out : List (List Int)), (s.foldl stepA out).length = out.length * pN s
  | [], out => by rw [List.foldl_nil, pN, Nat.mul_one]
  | x :: s, out => by rw [List.foldl_cons, foldA_len s, stepA_len, pN, Nat.mul_assoc]
theorem bet_pN (lo hi : List Int) : (betX lo hi).length = pN (dimsX lo hi) := by
  rw [bet_len, allX, foldA_len, List.length_singleton, Nat.one_mul]
theorem pN_set {s : List Int} {k : Nat} (hk : k < s.length) (x : Int) : pN (s.set k x) = pN (s.take k) * (x.toNat * pN (s.drop (k + 1))) := by
  rw [List.set_eq_take_append_cons_drop, if_pos hk, pN_app]
  rfl
theorem dims_hi {lo hi : List Int} (hl : lo.length = hi.length) {k : Nat} (hk : k < lo.length) (x : Int) : dimsX lo (hi.set k x) = (dimsX lo hi).set k (dmI (nth lo k) x) := by
  have e1 : (dimsX lo (hi.set k x)).length = lo.length := dims_len (by rw [List.length_set]; omega)
  have e2 : (dimsX lo hi).length = lo.length := dims_len (by omega)
  refine nth_ext (by rw [e1, List.length_set, e2]) fun j hj => ?_
  rw [e1] at hj
  rw [dims_nth (by rw [List.length_set]; omega) hj, nth_setX (by omega), nth_setX (by omega)]
  by_cases h : j = k
  · subst h
    rw [if_pos rfl, if_pos rfl]
  · rw [if_neg h, if_neg h, dims_nth (by omega) hj]
theorem dims_lo {lo hi : List Int} (hl : lo.length = hi.length) {k : Nat} (hk : k < lo.length) (x : Int) : dimsX (lo.set k x) hi = (dimsX lo hi).set k (dmI x (nth hi k)) := by
  have e1 : (dimsX (lo.set k x) hi).length = lo.length := by rw [dims_len (by rw [List.length_set]; omega), List.length_set]
  have e2 : (dimsX lo hi).length = lo.length := dims_len (by omega)
  refine nth_ext (by rw [e1, List.length_set, e2]) fun j hj => ?_
  rw [e1] at hj
  rw [dims_nth (by rw [List.length_set]; omega) (by rw [List.length_set]; exact hj), nth_setX (by omega), nth_setX (by omega)]
  by_cases h : j = k
  · subst h
    rw [if_pos rfl, if_pos rfl]
  · rw [if_neg h, if_neg h, dims_nth (by omega) hj]
theorem set_self {s : List Int} {k : Nat} : s.set k (nth s k) = s := by
  by_cases hk : k < s.length
  · refine nth_ext (List.length_set ..) fun j hj => ?_
    rw [nth_setX hk]
    split
    · next h => rw [h]
    · rfl
  · exact List.set_eq_of_length_le (by omega)
/-- dividing a range divides its indices -/
theorem split_len {lo hi : List Int} (hl : lo.length = hi.length) {k : Nat} (hk : k < lo.length) {x : Int} (h1 : nth lo k ≤ x) (h2 : x ≤ nth hi k) :
    (betX lo (hi.set k x)).length + (betX (lo.set k x) hi).length = (betX lo hi).length := by
  have e2 : (dimsX lo hi).length = lo.length := dims_len (by omega)
  have e3 : betX lo hi = betX lo (hi.set k (nth hi k)) := by rw [set_self]
  rw [e3, bet_pN, bet_pN, bet_pN, dims_hi hl hk, dims_lo hl hk, dims_hi hl hk, pN_set (by omega), pN_set (by omega), pN_set (by omega)]
  have e4 : (dmI (nth lo k) (nth hi k)).toNat = (dmI (nth lo k) x).toNat + (dmI x (nth hi k)).toNat := by
    unfold dmI
    split <;> split <;> split <;> omega
  rw [e4, Nat.add_mul, Nat.mul_add]

theorem new_some {B : Nat} {w : World} {p : Option Addr} {xs : List Int} (h : New B w p 3 (xs.map (.int .i64))) (h0 : 0 < xs.length) : ∃ g, p = some ⟨g, 0, none⟩ ∧ B ≤ g ∧ Own w g 3 (xs.map (.int .i64)) := by
  rcases h with h | h
  · have := congrArg List.length h
    rw [List.length_map, List.length_nil] at this
    omega
  · exact h
theorem own_ints {w : World} {g : Nat} {xs : List Int} (h : Own w g 3 (xs.map (.int .i64))) (h64 : ∀ x ∈ xs, I64 x) (hl : xs.length ≤ 1000000) : Ints w (some ⟨g, 0, none⟩) xs := New.ints (B := 0) (.inr ⟨g, rfl, Nat.zero_le _, h⟩) h64 (by omega)
theorem size_set (w : World) (a : Addr) (v : Value) : (w.setCell a v).heap.size = w.heap.size := by
  unfold World.setCell
  simp only [Array.size_modify]
theorem lit_set (w : World) (a : Addr) (v : Value) : ((w.setCell a v).alloc (.cells #[] 3)).ownsRow w.heap.size 3 1 (.slice (some ⟨w.heap.size, 0, none⟩) 0 0) 0 [] := by
  have h := World.ownsRow_lit (base := (w.setCell a v).heap.size) (e := 3) (size := 1) (w.setCell a v) #[] 0 (Nat.le_refl _) (by decide) rfl
  rw [size_set] at h
  exact h
theorem sum_wrap {A B C : Nat} (h : A + B = C) (hC : C ≤ 1000000) : A ≤ 1000000 ∧ B ≤ 1000000 ∧ (A : Int) + (B : Int) = (C : Int) := by
  refine ⟨by omega, by omega, by omega⟩
theorem Few_at (p q : Option Addr) (c f : Nat) (lo hi : List Int) (most : Int) (hm : 0 ≤ most ∧ most ≤ 100000) (r : Bool) (hr : decide (FewX lo hi most) = r) (n m : Nat) (hn : lo.length = n) (hk : hi.length = m) (w : World) (h : Ints w p lo) (h' : Ints w q hi) :
    Calls Try.prog 13 #[.slice p n c, .slice q m f, .int .i64 most] w fun e w' => e = .returned (.bool r) ∧ Below w.heap.size w w' := by
  subst hn hk
  exact RefFew4_any p q c f lo hi most hm r hr w h h'
theorem Collect_len (p q : Option Addr) (c f : Nat) (lo hi : List Int) (hO : OdoOk lo hi) (N : Nat) (hN : (betX lo hi).length = N) (hb : N ≤ 1000000) (n m : Nat) (hn : lo.length = n) (hm : hi.length = m) (w : World) (h : Ints w p lo) (h' : Ints w q hi) :
    Calls Try.prog 16 #[.slice p n c, .slice q m f] w fun e w' => (∃ p c, e = .returned (.slice p N c)) ∧ Below w.heap.size w w' := by
  refine (Collect_any p q c f lo hi hO _ rfl (by omega) n m hn hm w h h').mono fun e w' ⟨⟨pp, cc, rs, he, _, hv⟩, hb⟩ => ⟨⟨pp, cc, ?_⟩, hb⟩
  have := congrArg List.length hv
  rw [List.length_map, hN] at this
  rw [he, this]

set_option maxRecDepth 100000 in
set_option maxHeartbeats 4000000 in
theorem Splits_out (p q : Option Addr) (c f : Nat) (lo hi : List Int) (ax at' : Int) (hF : ¬ FewX lo hi 300 ∨ lo = []) (w : World) (h : Ints w p lo) (h' : Ints w q hi) :
    Calls Try.prog 6 #[.slice p lo.length c, .slice q hi.length f, .int .u8 ax, .int .i64 at'] w fun e w' => e = .returned (.bool true) ∧ Below w.heap.size w w' := by
  obtain ⟨r, hr⟩ : ∃ r, decide (FewX lo hi 300) = r := ⟨_, rfl⟩
  have HR := Lib.hid hr
  have HF := Lib.hid hF
  clear hr hF
  go_enter Try.func6, Try.ntmps6
  go_wp2_with fail
  refine (awake04 w).mono ?_
  rintro e1 w1 ⟨rfl, hb⟩
  have h1 := h.keep hb
  have h1' := h'.keep hb
  go_wp2_with fail
  refine (Few_at p q c f lo hi 300 (by omega) r HR.out lo.length hi.length rfl rfl w1 h1 h1').mono ?_
  rintro e2 w2 ⟨rfl, hb2⟩
  have hb := below_t hb hb2
  cases r with
  | false =>
    clear HF h1 h1'
    go_wp2_with fail
    refine (awake04 w2).mono ?_
    rintro e3 w3 ⟨rfl, hb3⟩
    go_wp2_with fail
    go_ret
    exact ⟨rfl, below_t hb hb3⟩
  | true =>
    have hl0 : lo = [] := by
      rcases HF.out with h0 | h0
      · have := HR.out
        rw [decide_eq_false h0] at this
        cases this
      · exact h0
    subst hl0
    clear HF h1 h1'
    go_wp2_with fail
    refine (awake04 w2).mono ?_
    rintro e3 w3 ⟨rfl, hb3⟩
    go_wp2_with fail
    go_ret
    exact ⟨rfl, below_t hb hb3⟩

set_option maxRecDepth 100000 in
set_option maxHeartbeats 8000000 in
theorem Splits_in (p q : Option Addr) (c f : Nat) (lo hi : List Int) (ax at' : Int) (hF : FewX lo hi 300) (h0 : lo ≠ []) (hax : 0 ≤ ax ∧ ax ≤ 255) (hat : I64 at') (w : World) (h : Ints w p lo) (h' : Ints w q hi) :
    Calls Try.prog 6 #[.slice p lo.length c, .slice q hi.length f, .int .u8 ax, .int .i64 at'] w fun e w' => e = .returned (.bool true) ∧ Below w.heap.size w w' := by
  have hln : 0 < lo.length := List.length_pos_iff.2 h0
  obtain ⟨k, hk⟩ : ∃ k, ax.toNat % lo.length = k := ⟨_, rfl⟩
  have hkn : k < lo.length := by rw [← hk]; exact Nat.mod_lt _ hln
  have hmod : Int.tmod ax (lo.length : Int) = (k : Int) := by
    obtain ⟨a, rfl⟩ : ∃ a : Nat, ax = a := ⟨ax.toNat, by omega⟩
    rw [← hk]
    rfl
  have hsm := h.small
  have hsm' := h'.small
  have hne : (lo.length : Int) ≠ 0 := by omega
  have hnb : ((lo.length : Int) == 0) = false := by simpa using hne
  have h16 := hF.2.1
  obtain ⟨x, hx⟩ : ∃ x, nth lo k = x := ⟨_, rfl⟩
  obtain ⟨y, hy⟩ : ∃ y, nth hi k = y := ⟨_, rfl⟩
  have HX := Lib.hid hx
  have HY := Lib.hid hy
  have HF := Lib.hid hF
  have HO := Lib.hid (few_ok hF h.i64 h'.i64)
  have HB := Lib.hid (bet_bound (by omega) (by omega) hF)
  have HLE : Hid (lo.length = hi.length) := hF.1
  have hkh : k < hi.length := by have := hF.1; omega
  clear hk hx hy hF h0
  have hki : (k : Int) < (lo.length : Int) := by omega
  have hkj : (k : Int) < (hi.length : Int) := by omega
  go_enter Try.func6, Try.ntmps6
  go_wp2_with fail
  refine (awake04 w).mono ?_
  rintro e1 w1 ⟨rfl, hb⟩
  have h1 := h.keep hb
  have h1' := h'.keep hb
  go_wp2_with fail
  refine (Few_at p q c f lo hi 300 (by omega) true (decide_eq_true HF.out) lo.length hi.length rfl rfl w1 h1 h1').mono ?_
  rintro e2 w2 ⟨rfl, hb2⟩
  have hb := below_t hb hb2
  have h2 := h1.keep hb2
  have h2' := h1'.keep hb2
  clear h1 h1' hb2
  obtain ⟨b1, o1, rfl, hbl1, hcx⟩ := h2.at hkn
  obtain ⟨b2, o2, rfl, hbl2, hcy⟩ := h2'.at hkh
  rw [HX.out] at hcx
  rw [HY.out] at hcy
  by_cases k1 : at' < x
  · have d1 : decide (at' < x) = true := decide_eq_true k1
    go_wp2_with fail
    go_ret
    exact ⟨rfl, hb⟩
  have d1 : decide (at' < x) = false := decide_eq_false k1
  by_cases k2 : y < at'
  · have d2 : decide (y < at') = true := decide_eq_true k2
    go_wp2_with fail
    go_ret
    exact ⟨rfl, hb⟩
  have d2 : decide (y < at') = false := decide_eq_false k2
  have hL1 : (hi.set k at').length = hi.length := List.length_set ..
  have hL2 : (lo.set k at').length = lo.length := List.length_set ..
  have NX : NearX lo hi k := HF.out.2.2.1 k hkn
  have HSET : Hid (∀ z : Int, I64 z → (∀ v ∈ lo.set k z, I64 v) ∧ ∀ v ∈ hi.set k z, I64 v) := fun z hz => ⟨fun v hv => by
    rcases List.mem_or_eq_of_mem_set hv with hv | rfl
    · exact h.i64 v hv
    · exact hz, fun v hv => by
    rcases List.mem_or_eq_of_mem_set hv with hv | rfl
    · exact h'.i64 v hv
    · exact hz⟩
  have HO1 : Hid (OdoOk lo (hi.set k at')) := ⟨by rw [hL1]; exact HLE.out, HO.out.small, HO.out.lo64, (HSET.out at' hat).2, vol_small h16 fun j hj => by
    have := HF.out.2.2.1 j hj
    unfold NearX at this NX
    rw [HX.out, HY.out] at NX
    rw [nth_setX hkh]
    split <;> omega⟩
  have HO2 : Hid (OdoOk (lo.set k at') hi) := ⟨by rw [hL2]; exact HLE.out, by rw [hL2]; exact HO.out.small, (HSET.out at' hat).1, HO.out.hi64, vol_small (by rw [hL2]; exact h16) fun j hj => by
    rw [hL2] at hj
    have := HF.out.2.2.1 j hj
    unfold NearX at this NX
    rw [HX.out, HY.out] at NX
    rw [nth_setX hkn]
    split <;> omega⟩
  have hsp := split_len HLE.out hkn (x := at') (by rw [HX.out]; omega) (by rw [HY.out]; omega)
  obtain ⟨A, hA⟩ : ∃ A, (betX lo (hi.set k at')).length = A := ⟨_, rfl⟩
  obtain ⟨B, hB⟩ : ∃ B, (betX (lo.set k at') hi).length = B := ⟨_, rfl⟩
  obtain ⟨C, hC⟩ : ∃ C, (betX lo hi).length = C := ⟨_, rfl⟩
  rw [hA, hB, hC] at hsp
  have hCb : C ≤ 1000000 := by have := HB.out; omega
  have HA := Lib.hid hA
  have HBB := Lib.hid hB
  have HC := Lib.hid hC
  have HL1 := Lib.hid hL1
  have HL2 := Lib.hid hL2
  have HSP : Hid (C = A + B) := hsp.symm
  obtain ⟨hA6, hB6, hsu⟩ := sum_wrap hsp hCb
  have HSU := Lib.hid hsu
  clear hsu
  have hw4 : Hid (((C : Int) == (C : Int)) = true) := by simp [Hid]
  clear hA hB hC hL1 hL2 hsp NX
  have hcap : hi.length ≤ 1000000 := by have := HLE.out; omega
  have hcap' : lo.length ≤ 1000000 := by omega
  have HI2 := Lib.hid h2
  have HI2' := Lib.hid h2'

  go_wp2_with (first
    | (at_builtin; refine append_ints rfl (.tmp 45) (.tmp 46) rfl w2.heap.size _ 0 [] rfl (World.ownsRow_lit w2 #[] 0 (Nat.le_refl _) (by decide) rfl) (some ⟨b2, o2, none⟩) f hi rfl (HI2'.out.keep (below_alloc w2 (.cells #[] 3))).1 (by omega) (by simp) ?_; intro v3 w3 o3 g3; rw [Nat.zero_add, List.nil_append] at o3; have hb3 := below_append' (below_alloc w2 _) (World.ownsRow_lit w2 #[] 0 (Nat.le_refl _) (by decide) rfl) g3; obtain ⟨p3, c3, hv3, n3⟩ := ints_new o3; obtain ⟨g, hg, hgB, og⟩ := new_some n3 (by omega); subst hg hv3; have cg := og.cell (i := k) (u := .int .i64 (nth hi k)) (by rw [List.getElem?_map, nth_get? hkh]; rfl); have fg := og.frozen k; have og4 := og.set (i := k) (by rw [List.length_map]; exact hkh) (.int .i64 at'); rw [← List.map_set] at og4; have hb4 := below_set hb3 hgB k (.int .i64 at'); have HI4 := Lib.hid (HI2.out.keep hb4); have hs4 := size_set w3 ⟨g, k, none⟩ (.int .i64 at'); have hlit4 := lit_set w3 ⟨g, k, none⟩ (.int .i64 at'); clear o3 g3 n3)
    | (at_builtin; refine append_ints rfl (.tmp 52) (.tmp 53) rfl w3.heap.size _ 0 [] rfl hlit4 (some ⟨b1, o1, none⟩) c lo rfl (HI4.out.keep (below_alloc _ (.cells #[] 3))).1 (by omega) (by simp) ?_; intro v5 w5 o5 g5; rw [Nat.zero_add, List.nil_append] at o5; have hb5 := below_append' (below_alloc (w3.setCell ⟨g, k, none⟩ (.int .i64 at')) _) (by rw [hs4]; exact hlit4) g5; obtain ⟨p5, c5, hv5, n5⟩ := ints_new o5; obtain ⟨g6, hg6, hgB6, og6⟩ := new_some n5 (by omega); subst hg6 hv5; have cg6 := og6.cell (i := k) (u := .int .i64 (nth lo k)) (by rw [List.getElem?_map, nth_get? hkn]; rfl); have fg6 := og6.frozen k; clear o5 g5 n5))
  have hgB6' : (w3.setCell ⟨g, k, none⟩ (.int .i64 at')).heap.size ≤ g6 := by first | exact hgB6 | (rw [hs4]; exact hgB6)
  have hb6 := below_set hb5 hgB6' k (.int .i64 at')
  have og7 := og6.set (i := k) (by rw [List.length_map]; exact hkn) (.int .i64 at')
  rw [← List.map_set] at og7
  have oa7 := og4.keep hb6 og4.lt
  have l7 := HI4.out.keep hb6
  have r7 := (HI2'.out.keep hb4).keep hb6
  have hbz := below_t hb (below_t hb4 hb6)
  have ia := own_ints oa7 (HSET.out at' hat).2 (by rw [HL1.out]; exact hcap)
  have ib := own_ints og7 (HSET.out at' hat).1 (by rw [HL2.out]; exact hcap')
  obtain ⟨W, hW⟩ : ∃ W, w5.setCell ⟨g6, k, none⟩ (.int .i64 at') = W := ⟨_, rfl⟩
  rw [hW] at l7 r7 ia ib hbz
  rw [hW]
  clear hW
  clear hcx hcy cg fg cg6 fg6 hlit4 hs4 og og4 og6 og7 oa7 hb3 hb4 hb5 hb6 hgB hgB6 hgB6' HI2 HI2' HI4 h2 h2' hb
  have hsum := HSU.out
  clear hmod hne hnb hax hki hkj hsm hsm' h16 d1 d2 k1 k2 hln
  refine (Count_at _ _ c c3 lo (hi.set k at') HO1.out A HA.out lo.length hi.length rfl HL1.out W l7 ia).mono ?_
  rintro e8 w8 ⟨rfl, hb8⟩
  have l8 := l7.keep hb8
  have r8 := r7.keep hb8
  have a8 := ia.keep hb8
  have b8 := ib.keep hb8
  have hbz := below_t hbz hb8
  clear l7 r7 ia ib hb8
  go_wp2_with fail
  refine (Count_at _ _ c5 f (lo.set k at') hi HO2.out B HBB.out lo.length hi.length HL2.out rfl w8 b8 r8).mono ?_
  rintro e9 w9 ⟨rfl, hb9⟩
  have l9 := l8.keep hb9
  have r9 := r8.keep hb9
  have a9 := a8.keep hb9
  have b9 := b8.keep hb9
  have hbz := below_t hbz hb9
  clear l8 r8 a8 b8 hb9
  go_wp2_with fail
  refine (Count_at _ _ c f lo hi HO.out C HC.out lo.length hi.length rfl rfl w9 l9 r9).mono ?_
  rintro e10 w10 ⟨rfl, hb10⟩
  have l10 := l9.keep hb10
  have r10 := r9.keep hb10
  have a10 := a9.keep hb10
  have b10 := b9.keep hb10
  have hbz := below_t hbz hb10
  clear l9 r9 a9 b9 hb10
  go_wp2_with fail
  refine (Collect_len _ _ c c3 lo (hi.set k at') HO1.out A HA.out hA6 lo.length hi.length rfl HL1.out w10 l10 a10).mono ?_
  rintro e11 w11 ⟨⟨p11, c11, rfl⟩, hb11⟩
  have l11 := l10.keep hb11
  have r11 := r10.keep hb11
  have b11 := b10.keep hb11
  have hbz := below_t hbz hb11
  clear l10 r10 a10 b10 hb11
  go_wp2_with fail
  refine (Collect_len _ _ c5 f (lo.set k at') hi HO2.out B HBB.out hB6 lo.length hi.length HL2.out rfl w11 b11 r11).mono ?_
  rintro e12 w12 ⟨⟨p12, c12, rfl⟩, hb12⟩
  have l12 := l11.keep hb12
  have r12 := r11.keep hb12
  have hbz := below_t hbz hb12
  clear l11 r11 b11 hb12
  go_wp2_with fail
  refine (Collect_len _ _ c f lo hi HO.out C HC.out hCb lo.length hi.length rfl rfl w12 l12 r12).mono ?_
  rintro e13 w13 ⟨⟨p13, c13, rfl⟩, hb13⟩
  have hbz := below_t hbz hb13
  clear l12 r12 hb13
  go_wp2_with fail
  go_ret
  exact ⟨rfl, hbz⟩

theorem OdometerSplits_law (p : Option Addr) (c : Nat) (lo : List Int) (q : Option Addr) (f : Nat) (hi : List Int) (ax at' : Int) (w : World) (h : Ints w p lo) (h' : Ints w q hi) (hax : 0 ≤ ax ∧ ax ≤ 255) (hat : I64 at') :
    Calls Try.prog 6 #[.slice p lo.length c, .slice q hi.length f, .int .u8 ax, .int .i64 at'] w fun e w' => e = .returned (.bool true) ∧ Below w.heap.size w w' := by
  by_cases hF : FewX lo hi 300
  · by_cases h0 : lo = []
    · exact Splits_out p q c f lo hi ax at' (.inr h0) w h h'
    · exact Splits_in p q c f lo hi ax at' hF h0 hax hat w h h'
  · exact Splits_out p q c f lo hi ax at' (.inl hF) w h h'
end Go.Proofs.Ythkfjiioekhkhaa
