/- odometer.Next, and what few indices bound. No condition beyond what each says. -/
import Derived.Test.YthkfjiioekhkhaaCollect
namespace Go.Proofs.Ythkfjiioekhkhaa
open Go.RowKit Go.Shelf
set_option linter.unusedVariables false
set_option linter.unusedSimpArgs false

theorem few_le {lo hi : List Int} {M : Int} (hM : M < 1000000) {n : Nat} (hn : fewN lo hi n ≤ M) (h : ∀ j, j < n → NearX lo hi j) : ∀ m, m ≤ n → fewN lo hi (n - m) ≤ M
  | 0, _ => hn
  | m + 1, hm => by
    have ih := few_le hM hn h m (by omega)
    have e : n - m = (n - (m + 1)) + 1 := by omega
    rw [e] at ih
    simp only [fewN] at ih
    have h1 := (fewN_bd (lo := lo) (hi := hi) (n - (m + 1)) fun j hj => h j (by omega)).1
    obtain ⟨a, ha⟩ : ∃ a, min (fewN lo hi (n - (m + 1))) 1000000 = a := ⟨_, rfl⟩
    obtain ⟨b, hb⟩ : ∃ b, max (nth hi (n - (m + 1)) - nth lo (n - (m + 1))) 1 = b := ⟨_, rfl⟩
    rw [ha, hb] at ih
    have h3 : a * 1 ≤ a * b := Int.mul_le_mul_of_nonneg_left (by omega) (by omega)
    omega
theorem all_few {lo hi : List Int} (hle : lo.length ≤ hi.length) {M : Int} (hM : M < 1000000) {n : Nat} (hnl : n ≤ lo.length) (hn : fewN lo hi n ≤ M) (h : ∀ j, j < n → NearX lo hi j) : ∀ k, k ≤ n → ((allX ((dimsX lo hi).take k)).length : Int) ≤ fewN lo hi k
  | 0, _ => by simp [allX, fewN]
  | k + 1, hk => by
    have ih := all_few hle hM hnl hn h k (by omega)
    have h0 := few_le hM hn h (n - k) (by omega)
    rw [show n - (n - k) = k by omega] at h0
    rw [take_nth (by rw [dims_len hle]; omega), allX_snoc, stepA_len, dims_nth hle (by omega)]
    simp only [fewN]
    rw [Int.natCast_mul]
    have e : min (fewN lo hi k) 1000000 = fewN lo hi k := by omega
    rw [e]
    have h2 : ((dmI (nth lo k) (nth hi k)).toNat : Int) ≤ max (nth hi k - nth lo k) 1 := by
      unfold dmI
      split <;> omega
    exact Int.mul_le_mul ih h2 (by omega) (by have := (fewN_bd (lo := lo) (hi := hi) k fun j hj => h j (by omega)).1; omega)
theorem few_bound {lo hi : List Int} {most : Int} (hm : most ≤ 9999) (h0 : 0 ≤ most) (h : FewX lo hi most) : ∀ k, k ≤ lo.length → (allX ((dimsX lo hi).take k)).length ≤ 1000000 := fun k hk => by
  obtain ⟨h1, h2, h3, h4⟩ := h
  have hM : fewN lo hi lo.length ≤ 100 * most := by rcases h4 with h4 | h4 <;> omega
  have h5 := all_few (by omega) (by omega) (Nat.le_refl _) hM h3 k hk
  have h6 := few_le (by omega) hM h3 (lo.length - k) (by omega)
  rw [show lo.length - (lo.length - k) = k by omega] at h6
  omega
theorem bet_len {lo hi : List Int} : (betX lo hi).length = (allX (dimsX lo hi)).length := by unfold betX; rw [List.length_map]
theorem bet_bound {lo hi : List Int} {most : Int} (hm : most ≤ 9999) (h0 : 0 ≤ most) (h : FewX lo hi most) : (betX lo hi).length ≤ 1000000 := by
  have h1 := few_bound hm h0 h lo.length (Nat.le_refl _)
  rw [bet_len]
  rwa [List.take_of_length_le (by rw [dims_len (by have := h.1; omega)]; omega)] at h1
theorem few_ok {lo hi : List Int} {most : Int} (h : FewX lo hi most) (h1 : ∀ x ∈ lo, I64 x) (h2 : ∀ x ∈ hi, I64 x) : OdoOk lo hi :=
  ⟨h.1, by have := h.2.1; omega, h1, h2, vol_small h.2.1 fun j hj => by have := h.2.2.1 j hj; unfold NearX at this; omega⟩

set_option maxRecDepth 100000 in
set_option maxHeartbeats 2000000 in
theorem Inside_yes (p q r : Option Addr) (c f d : Nat) (lo hi ix : List Int) (n m k : Nat) (hn : lo.length = n) (hm : hi.length = m) (hk : ix.length = k) (h1 : k ≤ n) (h2 : k ≤ m) (hin : ∀ i, i < k → nth lo i ≤ nth ix i ∧ nth ix i < nth hi i) (w : World) (h : Ints w p lo) (h' : Ints w q hi) (hx : Ints w r ix) :
    Calls Try.prog 49 #[.slice p n c, .slice q m f, .slice r k d] w fun e w' => e = .returned (.bool true) ∧ Below w.heap.size w w' := by
  subst hn hm hk
  have HIN := Lib.hid hin
  have hsm := hx.small
  clear hin
  go_enter Try.func49, Try.ntmps49
  go_wp2_with fail
  go_loopw [11] (fun i wr => ∃ (j m : Nat), j ≤ ix.length ∧ i = .int .i64 j ∧ wr = w.drewN m) (fun i _ => ix.length - (intOf i).toNat)
  case atStart => exact ⟨0, 0, Nat.zero_le _, rfl, rfl⟩
  case round =>
    obtain ⟨j, m, hj, rfl, rfl⟩ := hrel
    by_cases hlt : j < ix.length
    · have hj1 : (j : Int) < (ix.length : Int) := by omega
      have hj2 : (j : Int) < (lo.length : Int) := by omega
      have hj3 : (j : Int) < (hi.length : Int) := by omega
      obtain ⟨b1, o1, rfl, -, k1⟩ := hx.at hlt
      obtain ⟨b2, o2, rfl, -, k2⟩ := h.at (show j < lo.length by omega)
      obtain ⟨b3, o3, rfl, -, k3⟩ := h'.at (show j < hi.length by omega)
      obtain ⟨x, ex⟩ : ∃ x, nth ix j = x := ⟨_, rfl⟩
      obtain ⟨y, ey⟩ : ∃ y, nth lo j = y := ⟨_, rfl⟩
      obtain ⟨z, ez⟩ : ∃ z, nth hi j = z := ⟨_, rfl⟩
      have hin := HIN.out j hlt
      rw [ex, ey, ez] at hin
      rw [ex] at k1
      rw [ey] at k2
      rw [ez] at k3
      have d1 : decide (x < y) = false := decide_eq_false (by omega)
      have d2 : decide (z ≤ x) = false := decide_eq_false (by omega)
      clear ex ey ez
      go_wp2_with fail
      go_roundw
      case rel => exact ⟨j + 1, _, by omega, by go_num, rfl⟩
      case measure => simp [intOf]; omega
    · have hj1 : ¬ (j : Int) < (ix.length : Int) := by omega
      go_wp2_with fail
      go_ret
      exact ⟨rfl, below_drewN _ _ _⟩

def NextRet (R : Bool) (k : Nat) (X : List Int) (B : Nat) (e : Ending) (w' : World) : Prop :=
  if R = true then ∃ pa ca, e = .returned (.tuple #[.slice pa k ca, .bool true]) ∧ New B w' pa 3 (X.map (.int .i64)) else e = .returned (.tuple #[.slice none 0 0, .bool false])
theorem nextRet_yes {k : Nat} {X : List Int} {B : Nat} {w' : World} (pa : Option Addr) (ca : Nat) (h : New B w' pa 3 (X.map (.int .i64))) : NextRet true k X B (.returned (.tuple #[.slice pa k ca, .bool true])) w' := by
  unfold NextRet
  rw [if_pos rfl]
  exact ⟨pa, ca, rfl, h⟩
theorem nextRet_no {k : Nat} {X : List Int} {B : Nat} {w' : World} : NextRet false k X B (.returned (.tuple #[.slice none 0 0, .bool false])) w' := by
  unfold NextRet
  rw [if_neg (by decide)]
set_option maxRecDepth 100000 in
set_option maxHeartbeats 2000000 in
/-- odometer.Next at an index of the range: the following one (J > 0), or none -/
theorem Next_at (p q r : Option Addr) (c f d : Nat) (lo hi ix : List Int) (J n m k : Nat) (hn : lo.length = n) (hm : hi.length = m) (hk : ix.length = k) (hl : lo.length = hi.length) (hl' : ix.length = lo.length) (h0 : ix ≠ []) (hs : lo.length ≤ 1000000)
    (hin : ∀ i, i < k → nth lo i ≤ nth ix i ∧ nth ix i < nth hi i) (hJ : StopAt lo hi ix J) (R : Bool) (hR : decide (0 < J) = R) (X : List Int) (hX : stepX lo ix J = X) (w : World) (h : Ints w p lo) (h' : Ints w q hi) (hx : Ints w r ix) :
    Calls Try.prog 36 #[.slice p n c, .slice q m f, .slice r k d] w fun e w' => NextRet R k X w.heap.size e w' ∧ Below w.heap.size w w' := by
  have hx64 := hx.i64
  have hxn : ∀ i, i < lo.length → I64 (nth ix i) ∧ nth ix i < nth hi i := fun i hi' => ⟨hx64 _ (nth_mem (by omega)), (hin i (by omega)).2⟩
  subst hn hm hk
  have HJ := Lib.hid hJ
  have HX := Lib.hid hX
  have HR := Lib.hid hR
  have HL := Lib.hid (show lo.length = hi.length ∧ ix.length = lo.length ∧ ix ≠ [] from ⟨hl, hl', h0⟩)
  have HIN := Lib.hid hin
  have HXN := Lib.hid hxn
  have hs2 : ix.length ≤ 1000000 := by omega
  clear hJ hX hR hl hl' h0 hin hxn
  go_enter Try.func36, Try.ntmps36
  go_wp2_with fail
  refine (Clone_at r d ix ix.length rfl w hx hs2).mono ?_
  rintro e1 w1 ⟨⟨pa, ca, rfl, hnew⟩, hb1⟩
  have i1 := h.keep hb1
  have i2 := h'.keep hb1
  have i3 := hx.keep hb1
  go_wp2_with fail
  refine (Inside_yes p q r c f d lo hi ix lo.length hi.length ix.length rfl rfl rfl (by have := HL.out; omega) (by have := HL.out; omega) HIN.out w1 i1 i2 i3).mono ?_
  rintro e2 w2 ⟨rfl, hb2⟩
  have j1 := i1.keep hb2
  have j2 := i2.keep hb2
  obtain ⟨g, hg, hgB, ho⟩ : ∃ g, pa = some ⟨g, 0, none⟩ ∧ w.heap.size ≤ g ∧ Own w2 g 3 (ix.map (.int .i64)) := by
    rcases hnew.keep' hb2 with h0 | h0
    · exact (HL.out.2.2 (by simpa using h0)).elim
    · exact h0
  have hbw := below_t hb1 hb2
  have hsz := hbw.size
  have keep : ∀ {pp : Option Addr} {xs : List Int}, Ints w pp xs → ∀ z, w2.grownBy z (some g) → Ints z pp xs := fun hI z hz => by
    exact hI.keep (hbw.grown hz hsz fun k e => by cases e; exact hgB)
  have hstep := Step_any p q c f ca g lo hi ix J HL.out.1 HL.out.2.1 (by have := HL.out; omega) HJ.out HXN.out w2 (keep h) (keep h') ho
  rw [HX.out, HR.out, ← hg] at hstep
  have e5 : lo.length = ix.length := HL.out.2.1.symm
  have e6 : lo.length = hi.length := HL.out.1
  have HST : Hid (Calls Try.prog 41 #[.slice p lo.length c, .slice q hi.length f, .slice pa ix.length ca] w2 fun e w' => e = .returned (.bool R) ∧ w2.grownBy w' (some g) ∧ Own w' g 3 (X.map (.int .i64))) := by
    rw [Hid, ← e6, ← e5]
    exact hstep
  have HG := Lib.hid hg
  clear hstep e5 e6 keep ho hnew hg i1 i2 i3 j1 j2
  go_wp2_with fail
  refine HST.out.mono ?_
  rintro e3 w3 ⟨rfl, hg3, ho3⟩
  have hb3 := hbw.grown hg3 hsz fun k e => by cases e; exact hgB
  cases R with
  | false =>
    go_wp2_with fail
    go_ret2
    exact ⟨nextRet_no, hb3⟩
  | true =>
    go_wp2_with fail
    go_ret2
    exact ⟨nextRet_yes pa ca (.inr ⟨g, HG.out, hgB, ho3⟩), hb3⟩

end Go.Proofs.Ythkfjiioekhkhaa
