/- What two boxes have in common: box.Intersect. No condition beyond what each says. -/
import Derived.Test.YthkfjdhakbjllaaBox6
namespace Go.Proofs.Ythkfjdhakbjllaa
open Go.RowKit Go.Shelf
set_option linter.unusedVariables false
set_option linter.unusedSimpArgs false

def mxI (x y : Int) : Int := if x < y then y else x
def mnI (x y : Int) : Int := if y < x then y else x
theorem mxI_any (x y : Int) (w : World) : Calls Try.prog 91 #[.int .i64 x, .int .i64 y] w fun e w' => e = .returned (.int .i64 (mxI x y)) ∧ w = w' := by
  by_cases hxy : x < y
  · rw [show mxI x y = y from if_pos hxy]
    go_enter Try.func91, Try.ntmps91
    go_wp2_with fail
    go_ret
    exact ⟨rfl, rfl⟩
  · rw [show mxI x y = x from if_neg hxy]
    go_enter Try.func91, Try.ntmps91
    go_wp2_with fail
    go_ret
    exact ⟨rfl, rfl⟩
theorem mnI_any (x y : Int) (w : World) : Calls Try.prog 92 #[.int .i64 x, .int .i64 y] w fun e w' => e = .returned (.int .i64 (mnI x y)) ∧ w = w' := by
  by_cases hxy : y < x
  · rw [show mnI x y = y from if_pos hxy]
    go_enter Try.func92, Try.ntmps92
    go_wp2_with fail
    go_ret
    exact ⟨rfl, rfl⟩
  · rw [show mnI x y = x from if_neg hxy]
    go_enter Try.func92, Try.ntmps92
    go_wp2_with fail
    go_ret
    exact ⟨rfl, rfl⟩
/-- what two boxes have in common -/
def meetLo (alo blo : List Int) : List Int := mixX mxI alo blo
def meetHi (ahi bhi : List Int) : List Int := mixX mnI ahi bhi
def Meets (alo ahi blo bhi : List Int) : Prop := alo.length = blo.length ∧ FullX (meetLo alo blo) (meetHi ahi bhi)
instance (alo ahi blo bhi : List Int) : Decidable (Meets alo ahi blo bhi) := inferInstanceAs (Decidable (_ ∧ _))
def MeetRet (alo ahi blo bhi : List Int) (w : World) (e : Ending) (w' : World) : Prop :=
  (if Meets alo ahi blo bhi then ∃ p c q f, e = .returned (.tuple #[.agg #[.slice p (meetLo alo blo).length c, .slice q (meetHi ahi bhi).length f], .bool true]) ∧ New w.heap.size w' p 3 ((meetLo alo blo).map (.int .i64)) ∧ New w.heap.size w' q 3 ((meetHi ahi bhi).map (.int .i64))
   else e = .returned (.tuple #[.agg #[.slice none 0 0, .slice none 0 0], .bool false])) ∧ Below w.heap.size w w'
theorem meetRet_yes {alo ahi blo bhi : List Int} {w w' : World} (hm : Meets alo ahi blo bhi) (p q : Option Addr) (c f n m : Nat) (hn : n = (meetLo alo blo).length) (hm' : m = (meetHi ahi bhi).length) (h1 : New w.heap.size w' p 3 ((meetLo alo blo).map (.int .i64))) (h2 : New w.heap.size w' q 3 ((meetHi ahi bhi).map (.int .i64))) (hb : Below w.heap.size w w') :
    MeetRet alo ahi blo bhi w (.returned (.tuple #[.agg #[.slice p n c, .slice q m f], .bool true])) w' := ⟨by rw [if_pos hm]; exact ⟨p, c, q, f, by rw [hn, hm'], h1, h2⟩, hb⟩
theorem meetRet_no {alo ahi blo bhi : List Int} {w w' : World} (hm : ¬ Meets alo ahi blo bhi) (hb : Below w.heap.size w w') :
    MeetRet alo ahi blo bhi w (.returned (.tuple #[.agg #[.slice none 0 0, .slice none 0 0], .bool false])) w' := ⟨by rw [if_neg hm], hb⟩
theorem below_set {B : Nat} {w w' : World} (h : Below B w w') {g : Nat} (hg : B ≤ g) (i : Nat) (v : Value) : Below B w (w'.setCell ⟨g, i, none⟩ v) := h.setCell (p := ⟨g, i, none⟩) hg v
theorem count_zero {lo hi : List Int} : countX lo hi = 0 ↔ ¬ FullX lo hi := by
  unfold countX
  by_cases h : FullX lo hi
  · rw [if_pos h]
    have := vol_pos h lo.length (Nat.le_refl _)
    exact ⟨fun e => by omega, fun e => (e h).elim⟩
  · rw [if_neg h]
    exact ⟨fun _ => h, fun _ => rfl⟩
theorem Count_is (p q : Option Addr) (c f : Nat) (lo hi : List Int) (n : Int) (l m : Nat) (hl : l = lo.length) (hm : m = hi.length) (hn : countX lo hi = n) (hlen : lo.length ≤ hi.length) (hv : FullX lo hi → vol lo hi lo.length ≤ 9000000000000000000) (w : World) (h : Ints w p lo) (h' : Ints w q hi) :
    Calls Try.prog 93 #[.slice p l c, .slice q m f] w fun e w' => e = .returned (.int .i64 n) ∧ Below w.heap.size w w' := by
  subst hl hm
  exact (Count_any p q c f lo hi hi.length rfl hlen hv w h h').mono fun e w' ⟨he, m, hw⟩ => ⟨by rw [he, hn], hw ▸ below_drewN _ _ _⟩
theorem mix_i64 {op : Int → Int → Int} {xs ys : List Int} (hop : ∀ x y, op x y = x ∨ op x y = y) (hx : ∀ x ∈ xs, I64 x) (hy : ∀ x ∈ ys, I64 x) : ∀ x ∈ mixX op xs ys, I64 x := by
  intro z hz
  unfold mixX at hz
  induction xs generalizing ys with
  | nil => simp at hz
  | cons a xs ih =>
    cases ys with
    | nil => simp at hz
    | cons b ys =>
      simp only [List.zipWith_cons_cons, List.mem_cons] at hz
      rcases hz with hz | hz
      · rcases hop a b with e | e
        · rw [hz, e]; exact hx a (by simp)
        · rw [hz, e]; exact hy b (by simp)
      · exact ih (fun x h => hx x (by simp [h])) (fun x h => hy x (by simp [h])) hz
theorem mxI_or (x y : Int) : mxI x y = x ∨ mxI x y = y := by unfold mxI; split <;> simp
theorem mnI_or (x y : Int) : mnI x y = x ∨ mnI x y = y := by unfold mnI; split <;> simp

set_option maxHeartbeats 2000000 in
theorem Meet_len (p q p' q' : Option Addr) (c f c' f' : Nat) (alo ahi blo bhi : List Int) (hne : alo.length ≠ blo.length) (w : World) (h1 : Ints w p alo) (h2 : Ints w q ahi) (h3 : Ints w p' blo) (h4 : Ints w q' bhi) :
    Calls Try.prog 54 #[.agg #[.slice p alo.length c, .slice q ahi.length f], .agg #[.slice p' blo.length c', .slice q' bhi.length f']] w (MeetRet alo ahi blo bhi w) := by
  have hlb : ((alo.length : Int) != (blo.length : Int)) = true := by simp; omega
  have HM : Hid (¬ Meets alo ahi blo bhi) := fun h => hne h.1
  have s1 := h1.small
  have s2 := h3.small
  go_enter Try.func54, Try.ntmps54
  go_wp2_with fail
  refine bodyPost_ret (v := .tuple #[.agg #[.slice none 0 0, .slice none 0 0], .bool false]) (by simp [results, Try.results54, go_sem]) rfl (meetRet_no HM.out ?_)
  exact below_t (below_alloc _ _) (below_t (below_alloc _ _) (below_alloc _ _))

set_option maxHeartbeats 2000000 in
theorem Meet_any (p q p' q' : Option Addr) (c f c' f' : Nat) (alo ahi blo bhi : List Int) (hl : alo.length ≤ 1000000) (ha : alo.length = ahi.length) (hb' : blo.length = bhi.length) (hv : FullX (meetLo alo blo) (meetHi ahi bhi) → vol (meetLo alo blo) (meetHi ahi bhi) (meetLo alo blo).length ≤ 9000000000000000000)
    (w : World) (h1 : Ints w p alo) (h2 : Ints w q ahi) (h3 : Ints w p' blo) (h4 : Ints w q' bhi) :
    Calls Try.prog 54 #[.agg #[.slice p alo.length c, .slice q ahi.length f], .agg #[.slice p' blo.length c', .slice q' bhi.length f']] w (MeetRet alo ahi blo bhi w) := by
  by_cases hne : alo.length = blo.length
  · have hlb : ((alo.length : Int) != (blo.length : Int)) = false := by simp [hne]
    have OA := Own.made w w.heap.size [.slice p alo.length c, .slice q ahi.length f] 67 rfl
    have b1 := below_alloc w (.cells #[.slice p alo.length c, .slice q ahi.length f] 67)
    obtain ⟨W1, hW1⟩ : ∃ W1, w.alloc (.cells #[.slice p alo.length c, .slice q ahi.length f] 67) = W1 := ⟨_, rfl⟩
    have OA : Own W1 w.heap.size 67 [.slice p alo.length c, .slice q ahi.length f] := hW1 ▸ OA
    have z1 : W1.heap.size = w.heap.size + 1 := by rw [← hW1]; simp
    rw [hW1] at b1
    have OB := Own.made W1 (w.heap.size + 1) [.slice p' blo.length c', .slice q' bhi.length f'] 67 z1.symm
    have b2 := below_alloc W1 (.cells #[.slice p' blo.length c', .slice q' bhi.length f'] 67)
    obtain ⟨W2, hW2⟩ : ∃ W2, W1.alloc (.cells #[.slice p' blo.length c', .slice q' bhi.length f'] 67) = W2 := ⟨_, rfl⟩
    have OB : Own W2 (w.heap.size + 1) 67 [.slice p' blo.length c', .slice q' bhi.length f'] := hW2 ▸ OB
    have z2 : W2.heap.size = w.heap.size + 2 := by rw [← hW2]; simp [z1]
    rw [hW2] at b2
    have OR := Own.made W2 (w.heap.size + 2) [.slice none 0 0, .slice none 0 0] 67 z2.symm
    have b3 := below_alloc W2 (.cells #[.slice none 0 0, .slice none 0 0] 67)
    obtain ⟨W3, hW3⟩ : ∃ W3, W2.alloc (.cells #[.slice none 0 0, .slice none 0 0] 67) = W3 := ⟨_, rfl⟩
    have OR : Own W3 (w.heap.size + 2) 67 [.slice none 0 0, .slice none 0 0] := hW3 ▸ OR
    rw [hW3] at b3
    have z3 : W3.heap.size = w.heap.size + 3 := by rw [← hW3]; simp [z2]
    have OA := (OA.keep b2 OA.lt).keep b3 (by omega)
    have OB := OB.keep b3 OB.lt
    have hb := below_t b1 (below_t b2 b3)
    have h1 := h1.keep hb
    have h2 := h2.keep hb
    have h3 := h3.keep hb
    have h4 := h4.keep hb
    have HW : Hid (((w.alloc (.cells #[.slice p alo.length c, .slice q ahi.length f] 67)).alloc (.cells #[.slice p' blo.length c', .slice q' bhi.length f'] 67)).alloc (.cells #[.slice none 0 0, .slice none 0 0] 67) = W3) := by rw [Hid, hW1, hW2, hW3]
    have HL := Lib.hid hne
    have HA := Lib.hid ha
    have HB := Lib.hid hb'
    have HV := Lib.hid hv
    clear b1 b2 b3 hW1 hW2 hW3 z1 z2 hne ha hb' hv
    go_enter Try.func54, Try.ntmps54
    go_wp2_with fail
    rw [HW.out]
    have e1 := HL.out
    refine (Merged_any 91 mxI (enters_of Try.func91 (by kernel_rfl) rfl) mxI_any p p' c c' alo blo (by omega) hl W3 h1 h3).mono ?_
    rintro e4 w4 ⟨⟨r4, c4, rfl, n4⟩, hb4⟩
    have i4 := Lib.hid (mix_i64 (op := mxI) mxI_or h1.i64 h3.i64)
    have OA4 := OA.keep hb4 OA.lt
    have OB4 := OB.keep hb4 OB.lt
    have OR4 := OR.keep hb4 OR.lt
    have h2 := h2.keep hb4
    have h4 := h4.keep hb4
    have hb := below_t hb hb4
    have q0 := OA4.cell (i := 1) rfl
    have q1 := OB4.cell (i := 1) rfl
    have z4 := hb4.size
    clear e1 OA OB OR h1 h3 hb4 HW
    go_wp2_with fail
    clear q0 q1
    refine (Merged_any 92 mnI (enters_of Try.func92 (by kernel_rfl) rfl) mnI_any q q' f f' ahi bhi (by have := HL.out; have := HA.out; have := HB.out; omega) (by have := HA.out; omega) w4 h2 h4).mono ?_
    rintro e5 w5 ⟨⟨r5, c5, rfl, n5⟩, hb5⟩
    have i5 := Lib.hid (mix_i64 (op := mnI) mnI_or h2.i64 h4.i64)
    have OR5 := OR4.keep hb5 OR4.lt
    have n4 := n4.keep' hb5
    have hb := below_t hb hb5
    have z5 := hb5.size
    have l4 : (meetLo alo blo).length = alo.length := mix_len (by have := HL.out; omega)
    have l5 : (meetHi ahi bhi).length = ahi.length := mix_len (by have := HL.out; have := HA.out; have := HB.out; omega)
    have hll : (meetLo alo blo).length ≤ (meetHi ahi bhi).length := by have := HA.out; omega
    have hl6 : (meetLo alo blo).length ≤ 1000000 := by omega
    have hl7 : (meetHi ahi bhi).length ≤ 1000000 := by have := HA.out; omega
    clear OA4 OB4 OR4 h2 h4 hb5 l4 l5
    go_wp2_with fail
    obtain ⟨v, hv⟩ : ∃ v, countX (meetLo alo blo) (meetHi ahi bhi) = v := ⟨_, rfl⟩
    have HC := Lib.hid hv
    clear hv
    refine (Count_is r4 r5 c4 c5 (meetLo alo blo) (meetHi ahi bhi) v _ _ rfl rfl HC.out hll HV.out w5 (n4.ints i4.out (by show (meetLo alo blo).length ≤ _; omega)) (n5.ints i5.out (by show (meetHi ahi bhi).length ≤ _; omega))).mono ?_
    rintro e6 w6 ⟨rfl, hb6⟩
    have OR6 := OR5.keep hb6 OR5.lt
    have k4 := ((((n4.keep' hb6).other (a := ⟨w.heap.size + 2, 0, none⟩) (by simp; omega) (.slice r4 (meetLo alo blo).length c4)).other (a := ⟨w.heap.size + 2, 1, none⟩) (by simp; omega) (.slice r5 (meetHi ahi bhi).length c5))).mono (B' := w.heap.size) (by omega)
    have k5 := ((((n5.keep' hb6).other (a := ⟨w.heap.size + 2, 0, none⟩) (by simp; omega) (.slice r4 (meetLo alo blo).length c4)).other (a := ⟨w.heap.size + 2, 1, none⟩) (by simp; omega) (.slice r5 (meetHi ahi bhi).length c5))).mono (B' := w.heap.size) (by omega)
    clear n4 n5
    have hb := below_t hb hb6
    have q0 := OR6.cell (i := 0) rfl
    have q1 := OR6.cell (i := 1) rfl
    have f0 := OR6.frozen 0
    have f1 := OR6.frozen 1
    by_cases hm : FullX (meetLo alo blo) (meetHi ahi bhi)
    · have hv0 : v ≠ 0 := fun e => (count_zero.1 (HC.out.trans e)) hm
      have hvb : (v == 0) = false := by simp [hv0]
      have HM : Hid (Meets alo ahi blo bhi) := ⟨HL.out, hm⟩
      clear hm
      have hbz := Lib.hid (below_set (below_set hb (Nat.le_add_right w.heap.size 2) 0 (.slice r4 (meetLo alo blo).length c4)) (Nat.le_add_right w.heap.size 2) 1 (.slice r5 (meetHi ahi bhi).length c5))
      have K4 := Lib.hid k4
      have K5 := Lib.hid k5
      clear k4 k5 hb
      go_wp2_with fail
      exact bodyPost_ret (v := .tuple #[.agg #[.slice r4 (meetLo alo blo).length c4, .slice r5 (meetHi ahi bhi).length c5], .bool true]) (by simp [results, Try.results54, go_sem, q0, q1, f0, f1, meetLo, meetHi]) rfl (meetRet_yes HM.out r4 r5 c4 c5 _ _ rfl rfl K4.out K5.out hbz.out)
    · have hv0 : v = 0 := HC.out.symm.trans (count_zero.2 hm)
      have HM : Hid (¬ Meets alo ahi blo bhi) := fun h => hm h.2
      subst hv0
      clear hm
      have hbz := Lib.hid (below_set (below_set hb (Nat.le_add_right w.heap.size 2) 0 (.slice none 0 0)) (Nat.le_add_right w.heap.size 2) 1 (.slice none 0 0))
      clear k4 k5 hb
      go_wp2_with fail
      exact bodyPost_ret (v := .tuple #[.agg #[.slice none 0 0, .slice none 0 0], .bool false]) (by simp [results, Try.results54, go_sem, q0, q1, f0, f1]) rfl (meetRet_no HM.out hbz.out)
  · exact Meet_len p q p' q' c f c' f' alo ahi blo bhi hne w h1 h2 h3 h4
end Go.Proofs.Ythkfjdhakbjllaa
