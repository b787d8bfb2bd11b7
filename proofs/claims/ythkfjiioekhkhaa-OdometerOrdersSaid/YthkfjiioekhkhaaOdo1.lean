/- Parts of the box texts that layer 4 wants: counts of a range, rows. No condition beyond what each says. -/
import Derived.Test.YthkfjiioekhkhaaKeep6
import Derived.Test.YthkfjiioekhkhaaApp
import Derived.Deep.DeepCutAuto
import Derived.Deep.AppendLies
namespace Go.Proofs.Ythkfjiioekhkhaa
open Go.RowKit Go.Shelf
set_option linter.unusedVariables false
set_option linter.unusedSimpArgs false

theorem wrap64_id {x : Int} (h1 : -9223372036854775808 ≤ x) (h2 : x ≤ 9223372036854775807) : wrap64 x = x := by unfold wrap64; omega
def FullX (lo hi : List Int) : Prop := ∀ j, j < lo.length → nth lo j < nth hi j
instance (lo hi : List Int) : Decidable (FullX lo hi) := inferInstanceAs (Decidable (∀ j, j < lo.length → nth lo j < nth hi j))
/-- the product of the first k lengths -/
def vol (lo hi : List Int) : Nat → Int
  | 0 => 1
  | k + 1 => vol lo hi k * (nth hi k - nth lo k)
theorem vol_pos {lo hi : List Int} (h : FullX lo hi) : ∀ k, k ≤ lo.length → 1 ≤ vol lo hi k
  | 0, _ => by simp [vol]
  | k + 1, hk => by
    have h1 := vol_pos h k (by omega)
    have h2 := h k (by omega)
    have h3 : 1 * 1 ≤ vol lo hi k * (nth hi k - nth lo k) := Int.mul_le_mul h1 (by omega) (by omega) (by omega)
    simpa [vol] using h3
theorem vol_le {lo hi : List Int} (h : FullX lo hi) {j k : Nat} (hjk : j ≤ k) (hk : k ≤ lo.length) : vol lo hi j ≤ vol lo hi k := by
  induction k with
  | zero =>
    have : j = 0 := by omega
    subst this
    exact Int.le_refl _
  | succ k ih =>
    by_cases hj : j = k + 1
    · subst hj
      exact Int.le_refl _
    · have h1 := ih (by omega) (by omega)
      have h2 := vol_pos h k (by omega)
      have h3 := h k (by omega)
      have h4 : vol lo hi k * 1 ≤ vol lo hi k * (nth hi k - nth lo k) := Int.mul_le_mul_of_nonneg_left (by omega) (by omega)
      simp only [vol]
      omega
def countX (lo hi : List Int) : Int := if FullX lo hi then vol lo hi lo.length else 0
theorem Count_any (p q : Option Addr) (c f : Nat) (lo hi : List Int) (n : Nat) (hn : hi.length = n) (hlen : lo.length ≤ n) (hv : FullX lo hi → vol lo hi lo.length ≤ 9000000000000000000) (w : World) (h : Ints w p lo) (h' : Ints w q hi) :
    Calls Try.prog 17 #[.slice p lo.length c, .slice q n f] w fun e w' => e = .returned (.int .i64 (countX lo hi)) ∧ ∃ m, w' = w.drewN m := by
  subst hn
  have hn := h.small
  have hn' := h'.small
  have HV := Lib.hid hv
  clear hv
  go_enter Try.func17, Try.ntmps17
  go_wp2_with fail
  go_loopw [10] (fun i wr => ∃ k m : Nat, k ≤ lo.length ∧ i = .int .i64 k ∧ wr = w.drewN m ∧ Hid (∀ j, j < k → nth lo j < nth hi j)) (fun i _ => lo.length - (intOf i).toNat)
  case atStart => exact ⟨0, 0, Nat.zero_le _, rfl, rfl, fun j hj => by omega⟩
  case round =>
    obtain ⟨k, m, hk, rfl, rfl, hI⟩ := hrel
    by_cases hlt : k < lo.length
    · have hlt' : k < hi.length := by omega
      obtain ⟨b1, o1, rfl, -, hc⟩ := h.at hlt
      obtain ⟨b2, o2, rfl, -, hc'⟩ := h'.at hlt'
      have hi1 : (k : Int) < (lo.length : Int) := by omega
      have hi2 : (k : Int) < (hi.length : Int) := by omega
      by_cases hx : nth lo k < nth hi k
      · have hxd : decide (nth hi k ≤ nth lo k) = false := by simp; omega
        have HN : Hid (∀ j, j < k + 1 → nth lo j < nth hi j) := fun j hj => by
          by_cases hjk : j = k
          · subst hjk
            exact hx
          · exact hI.out j (by omega)
        clear hx
        go_wp2
        go_quiet (fail)
        go_wp2
        go_roundw
        case rel => exact ⟨k + 1, _, by omega, by go_num, rfl, HN⟩
        case measure => simp [intOf]; omega
      · have hxd : decide (nth hi k ≤ nth lo k) = true := by simp; omega
        have HN : Hid (countX lo hi = 0) := if_neg fun hf => hx (hf k hlt)
        clear hx
        go_wp2
        go_quiet (fail)
        go_wp2
        go_ret
        exact ⟨ret_int HN.out.symm, quiet_add _ _ _⟩
    · have hi1 : ¬ (k : Int) < (lo.length : Int) := by omega
      have hf : FullX lo hi := fun j hj => hI.out j (by omega)
      have HF := Lib.hid hf
      have HC : Hid (countX lo hi = vol lo hi lo.length) := if_pos hf
      have hvv := HV.out hf
      clear hI hf
      go_wp2_with fail
      go_loopw [5, 25] (fun n i wr => ∃ k m : Nat, k ≤ lo.length ∧ i = .int .i64 k ∧ wr = w.drewN m ∧ n = .int .i64 (vol lo hi k)) (fun _ i _ => lo.length - (intOf i).toNat)
      case atStart => exact ⟨0, m, Nat.zero_le _, rfl, rfl, rfl⟩
      case round =>
        obtain ⟨k, m, hk, rfl, rfl, rfl⟩ := hrel
        by_cases hlt : k < lo.length
        · have hlt' : k < hi.length := by omega
          obtain ⟨b1, o1, rfl, -, hc⟩ := h.at hlt
          obtain ⟨b2, o2, rfl, -, hc'⟩ := h'.at hlt'
          have hi1 : (k : Int) < (lo.length : Int) := by omega
          have hi2 : (k : Int) < (hi.length : Int) := by omega
          have hx := HF.out k hlt
          have v1 := vol_pos HF.out k (by omega)
          have v2 := vol_pos HF.out (k + 1) (by omega)
          have v3 := vol_le HF.out (j := k + 1) (k := lo.length) (by omega) (by omega)
          have v4 : nth hi k - nth lo k ≤ vol lo hi (k + 1) := by
            have : 1 * (nth hi k - nth lo k) ≤ vol lo hi k * (nth hi k - nth lo k) := Int.mul_le_mul_of_nonneg_right v1 (by omega)
            simp only [vol]
            omega
          have HS : Hid (wrap64 (vol lo hi k * wrap64 (nth hi k - nth lo k)) = vol lo hi (k + 1)) := by
            unfold Hid
            rw [wrap64_id (x := nth hi k - nth lo k) (by omega) (by omega)]
            rw [show vol lo hi k * (nth hi k - nth lo k) = vol lo hi (k + 1) from rfl, wrap64_id (by omega) (by omega)]
          clear v1 v2 v3 v4 hx
          go_wp2
          go_quiet (fail)
          go_wp2
          go_roundw
          case rel => exact ⟨k + 1, _, by omega, by go_num, rfl, by rw [HS.out]⟩
          case measure => simp [intOf]; omega
        · have hi1 : ¬ (k : Int) < (lo.length : Int) := by omega
          have hke : k = lo.length := by omega
          have HN : Hid (countX lo hi = vol lo hi k) := by rw [hke]; exact HC
          clear hke
          go_wp2_with fail
          go_ret
          exact ⟨ret_int HN.out.symm, _, rfl⟩
def mixX (op : Int → Int → Int) (xs ys : List Int) : List Int := List.zipWith op xs ys
theorem mix_len {op : Int → Int → Int} {xs ys : List Int} (h : xs.length ≤ ys.length) : (mixX op xs ys).length = xs.length := by
  unfold mixX
  rw [List.length_zipWith]
  omega
theorem mix_nth {op : Int → Int → Int} {xs ys : List Int} {k : Nat} (h1 : k < xs.length) (h2 : k < ys.length) : nth (mixX op xs ys) k = op (nth xs k) (nth ys k) := by
  have h3 : k < (mixX op xs ys).length := by
    unfold mixX
    rw [List.length_zipWith]
    omega
  have e1 : nth (mixX op xs ys) k = (mixX op xs ys)[k] := by simp [nth, h3]
  have e2 : nth xs k = xs[k] := by simp [nth, h1]
  have e3 : nth ys k = ys[k] := by simp [nth, h2]
  rw [e1, e2, e3]
  simp [mixX]
/-- a call that returns a new row of numbers -/
def RowRet (xs : List Int) (w : World) (e : Ending) (w' : World) : Prop := (∃ r c, e = .returned (.slice r xs.length c) ∧ New w.heap.size w' r 3 (xs.map (.int .i64))) ∧ Below w.heap.size w w'
theorem rowRet {xs : List Int} {w w' : World} {n : Nat} (hn : n = xs.length) (r : Option Addr) (c : Nat) (h : New w.heap.size w' r 3 (xs.map (.int .i64))) (hb : Below w.heap.size w w') : RowRet xs w (.returned (.slice r n c)) w' := ⟨⟨r, c, by rw [hn], h⟩, hb⟩
theorem below_set {B : Nat} {w w' : World} (h : Below B w w') {g : Nat} (hg : B ≤ g) (i : Nat) (v : Value) : Below B w (w'.setCell ⟨g, i, none⟩ v) := h.setCell (p := ⟨g, i, none⟩) hg v
theorem row_block' {a b : World} {B size n : Nat} {e : TypeId} {v : Value} {xs : List Value} (h : a.ownsRow B e size v n xs) (hb : ∀ j, v.ownBlock = some j → b.heap[j]? = a.heap[j]?) : b.ownsRow B e size v n xs := by
  obtain ⟨h1, h2⟩ := h
  refine ⟨h1, ?_⟩
  rcases h2 with h2 | ⟨g, cap, cur, rfl, h3, h4, h5⟩
  · exact .inl h2
  · exact .inr ⟨g, cap, cur, rfl, h3, (hb g rfl).trans h4, h5⟩
theorem row_lt {a : World} {B size n : Nat} {e : TypeId} {v : Value} {xs : List Value} (h : a.ownsRow B e size v n xs) {j : Nat} (hj : v.ownBlock = some j) : B ≤ j ∧ j < a.heap.size := by
  obtain ⟨h1, h2⟩ := h
  rcases h2 with ⟨rfl, -⟩ | ⟨g, cap, cur, rfl, h3, h4, h5⟩
  · cases hj
  · cases hj
    exact ⟨h3, (Array.getElem?_eq_some_iff.1 h4).1⟩
theorem wp_append_lone {w : World} {o : Oper} {a : Act} {K : Act → World → Prop} {Q : Exit → Act → World → Prop} (s x : Operand)
    (ho : o.op = .call { callee := .builtin .append, args := #[s, x], argTypes := #[22, 22] })
    (base : Nat) (v : Value) (n : Nat) (xs : List Value) (hs : a.eval s = v) (hown : w.ownsRow base 3 1 v n xs)
    (b : Nat) (y : Int) (hx : a.eval x = .slice (some ⟨b, 0, none⟩) 1 1) (hb : w.heap[b]? = some (.cells #[.int .i64 y] 3 (0, 0))) (hbig : n ≤ 1000000) (hbase : base ≤ w.heap.size)
    (h : ∀ g cap w', w'.ownsRow base 3 1 (.slice (some ⟨g, 0, none⟩) (n + 1) cap) (n + 1) (xs ++ [.int .i64 y]) → w.grownBy w' v.ownBlock → (v.ownBlock = some g ∨ g = w.heap.size) → K (a.put o.dst (.slice (some ⟨g, 0, none⟩) (n + 1) cap)) w') : o.wp Try.prog a w K Q := by
  obtain ⟨i, hi, hz, hsize, hbytes⟩ := info_parts info_int
  exact wp_append_lies w s x 22 ho base 3 i (.int .i64 0) 1 8 Try.underlying22 hi hz hsize hbytes rfl (by decide) v n xs hs hown ⟨b, 0, none⟩ 1 1 [.int .i64 y] hx rfl (World.news_of_block hb) (by simp [Value.oneCell']) (by decide) (by unfold maxLen; omega) (by omega) hbase _ rfl fun g cap w' h1 h2 h3 _ => h g cap w' h1 h2 h3
def NearX (lo hi : List Int) (j : Nat) : Prop := -1000 ≤ nth lo j ∧ -1000 ≤ nth hi j ∧ nth lo j ≤ 1000 ∧ nth hi j ≤ 1000
instance (lo hi : List Int) (j : Nat) : Decidable (NearX lo hi j) := inferInstanceAs (Decidable (_ ∧ _))
/-- the reference's count of a range, held below a limit -/
def fewN (lo hi : List Int) : Nat → Int
  | 0 => 1
  | k + 1 => min (fewN lo hi k) 1000000 * max (nth hi k - nth lo k) 1
theorem fewN_bd {lo hi : List Int} : ∀ k, (∀ j, j < k → NearX lo hi j) → 1 ≤ fewN lo hi k ∧ fewN lo hi k ≤ 2000000000
  | 0, _ => by simp [fewN]
  | k + 1, h => by
    have h1 := fewN_bd k fun j hj => h j (by omega)
    have h2 := h k (by omega)
    unfold NearX at h2
    obtain ⟨a, ha⟩ : ∃ a, min (fewN lo hi k) 1000000 = a := ⟨_, rfl⟩
    obtain ⟨b, hb⟩ : ∃ b, max (nth hi k - nth lo k) 1 = b := ⟨_, rfl⟩
    have a1 : 1 ≤ a ∧ a ≤ 1000000 := by omega
    have b1 : 1 ≤ b ∧ b ≤ 2000 := by omega
    have c1 : 1 * 1 ≤ a * b := Int.mul_le_mul a1.1 b1.1 (by omega) (by omega)
    have c2 : a * b ≤ 1000000 * 2000 := Int.mul_le_mul a1.2 b1.2 (by omega) (by omega)
    simp only [fewN]
    rw [ha, hb]
    omega
def FewX (lo hi : List Int) (most : Int) : Prop := lo.length = hi.length ∧ lo.length ≤ 5 ∧ (∀ j, j < lo.length → NearX lo hi j) ∧ (fewN lo hi lo.length ≤ most ∨ (¬ FullX lo hi ∧ fewN lo hi lo.length ≤ 100 * most))
instance (lo hi : List Int) (most : Int) : Decidable (FewX lo hi most) := inferInstanceAs (Decidable (_ ∧ _))
set_option maxHeartbeats 1000000 in
theorem RefFew4_any (p q : Option Addr) (c f : Nat) (lo hi : List Int) (most : Int) (hm : 0 ≤ most ∧ most ≤ 100000) (r : Bool) (hr : decide (FewX lo hi most) = r) (w : World) (h : Ints w p lo) (h' : Ints w q hi) :
    Calls Try.prog 13 #[.slice p lo.length c, .slice q hi.length f, .int .i64 most] w fun e w' => e = .returned (.bool r) ∧ Below w.heap.size w w' := by
  have hn := h.small
  have hn' := h'.small
  have HR := Lib.hid hr
  clear hr
  by_cases hlen : lo.length = hi.length
  · have hlb : ((lo.length : Int) != (hi.length : Int)) = false := by simp [hlen]
    have Hlen := Lib.hid hlen
    have hle : lo.length ≤ hi.length := by omega
    clear hlen
    by_cases h5 : lo.length ≤ 5
    · have hd : decide ((5 : Int) < (lo.length : Int)) = false := by simp; omega
      go_enter Try.func13, Try.ntmps13
      go_wp2_with fail
      go_loopw [7, 8, 9] (fun n b i wr => ∃ k m : Nat, k ≤ lo.length ∧ i = .int .i64 k ∧ wr = w.drewN m ∧ n = .int .i64 (fewN lo hi k) ∧ (∃ bb, b = .bool bb ∧ Hid (bb = !decide (∀ j, j < k → nth lo j < nth hi j))) ∧ Hid (∀ j, j < k → NearX lo hi j)) (fun _ _ i _ => lo.length - (intOf i).toNat)
      case atStart => exact ⟨0, 0, Nat.zero_le _, rfl, rfl, rfl, ⟨false, rfl, by simp [Hid]⟩, fun j hj => by omega⟩
      case round =>
        obtain ⟨k, m, hk, rfl, rfl, rfl, ⟨bb, rfl, hB⟩, hI⟩ := hrel
        have hbd := fun n => below_drewN w.heap.size w n
        by_cases hlt : k < lo.length
        · have hlt' : k < hi.length := by omega
          obtain ⟨b1, o1, rfl, -, hc⟩ := h.at hlt
          obtain ⟨b2, o2, rfl, -, hc'⟩ := h'.at hlt'
          have hi1 : (k : Int) < (lo.length : Int) := by omega
          have hi2 : (k : Int) < (hi.length : Int) := by omega
          obtain ⟨x, hx⟩ : ∃ x, nth lo k = x := ⟨_, rfl⟩
          obtain ⟨y, hy⟩ : ∃ y, nth hi k = y := ⟨_, rfl⟩
          have HX := Lib.hid hx
          have HY := Lib.hid hy
          rw [hx] at hc
          rw [hy] at hc'
          clear hx hy
          by_cases hg : -1000 ≤ x ∧ -1000 ≤ y ∧ x ≤ 1000 ∧ y ≤ 1000
          · have d1 : decide (x < -1000) = false := by simp; omega
            have d2 : decide (y < -1000) = false := by simp; omega
            have d3 : decide (1000 < x) = false := by simp; omega
            have d4 : decide (1000 < y) = false := by simp; omega
            have HN : Hid (∀ j, j < k + 1 → NearX lo hi j) := fun j hj => by
              by_cases hjk : j = k
              · subst hjk
                unfold NearX
                rw [HX.out, HY.out]
                exact hg
              · exact hI.out j (by omega)
            have hf := fewN_bd (lo := lo) (hi := hi) k hI.out
            have hf2 := fewN_bd (lo := lo) (hi := hi) (k + 1) HN.out
            simp only [fewN] at hf2
            rw [HX.out, HY.out] at hf2
            have HS : Hid (wrap64 ((if 1000000 < fewN lo hi k then 1000000 else fewN lo hi k) * if y - x < 1 then 1 else y - x) = fewN lo hi (k + 1)) := by
              unfold Hid
              rw [show (if 1000000 < fewN lo hi k then (1000000 : Int) else fewN lo hi k) = min (fewN lo hi k) 1000000 by omega, show (if y - x < 1 then (1 : Int) else y - x) = max (y - x) 1 by omega]
              rw [wrap64_id (by omega) (by omega)]
              simp only [fewN]
              rw [HX.out, HY.out]
            clear hf hf2 hbd
            obtain ⟨fk, hfk⟩ : ∃ fk, fewN lo hi k = fk := ⟨_, rfl⟩
            rw [hfk] at HS
            have HFK := Lib.hid hfk
            rw [hfk]
            clear hfk
            cases bb with
            | true =>
              have HB : Hid (true = !decide (∀ j, j < k + 1 → nth lo j < nth hi j)) := by
                unfold Hid
                have h1 := hB.out
                rw [eq_comm, Bool.not_eq_true', decide_eq_false_iff_not] at h1
                rw [eq_comm, Bool.not_eq_true', decide_eq_false_iff_not]
                exact fun ha => h1 fun j hj => ha j (by omega)
              go_wp2
              go_quiet (fail)
              go_wp2
              go_quiet (fail)
              go_wp2
              go_roundw
              case rel => exact ⟨k + 1, _, by omega, by go_num, rfl, by rw [HS.out], ⟨true, rfl, HB⟩, HN⟩
              case measure => simp [intOf]; omega
            | false =>
              obtain ⟨e, he⟩ : ∃ e, decide (y ≤ x) = e := ⟨_, rfl⟩
              have HB : Hid (e = !decide (∀ j, j < k + 1 → nth lo j < nth hi j)) := by
                unfold Hid
                rw [← he]
                have h1 := hB.out
                rw [eq_comm, Bool.not_eq_false', decide_eq_true_iff] at h1
                by_cases hyx : y ≤ x
                · rw [decide_eq_true hyx, eq_comm, Bool.not_eq_true', decide_eq_false_iff_not]
                  intro ha
                  have := ha k (by omega)
                  rw [HX.out, HY.out] at this
                  omega
                · rw [decide_eq_false hyx, eq_comm, Bool.not_eq_false', decide_eq_true_iff]
                  intro j hj
                  by_cases hjk : j = k
                  · subst hjk
                    rw [HX.out, HY.out]
                    omega
                  · exact h1 j (by omega)
              go_wp2
              go_quiet (fail)
              go_wp2
              go_quiet (fail)
              go_wp2
              go_roundw
              case rel => exact ⟨k + 1, _, by omega, by go_num, rfl, by rw [HS.out], ⟨e, rfl, HB⟩, HN⟩
              case measure => simp [intOf]; omega
          · have HN : Hid (r = false) := HR.out.symm.trans (decide_eq_false fun hr => hg (by have := hr.2.2.1 k hlt; unfold NearX at this; rw [HX.out, HY.out] at this; exact this))
            by_cases g1 : x < -1000
            · have d1 : decide (x < -1000) = true := by simp; omega
              go_wp2_with fail
              go_ret
              exact ⟨ret_bool HN.out.symm, hbd _⟩
            · have d1 : decide (x < -1000) = false := by simp; omega
              by_cases g2 : y < -1000
              · have d2 : decide (y < -1000) = true := by simp; omega
                go_wp2_with fail
                go_ret
                exact ⟨ret_bool HN.out.symm, hbd _⟩
              · have d2 : decide (y < -1000) = false := by simp; omega
                by_cases g3 : 1000 < x
                · have d3 : decide (1000 < x) = true := by simp; omega
                  go_wp2_with fail
                  go_ret
                  exact ⟨ret_bool HN.out.symm, hbd _⟩
                · have d3 : decide (1000 < x) = false := by simp; omega
                  have d4 : decide (1000 < y) = true := by simp; omega
                  go_wp2_with fail
                  go_ret
                  exact ⟨ret_bool HN.out.symm, hbd _⟩
        · have hi1 : ¬ (k : Int) < (lo.length : Int) := by omega
          have hke : k = lo.length := by omega
          have hf := fewN_bd (lo := lo) (hi := hi) k hI.out
          have hw : wrap64 (100 * most) = 100 * most := wrap64_id (by omega) (by omega)
          have hR : Hid (r = decide (fewN lo hi k ≤ most ∨ (bb = true ∧ fewN lo hi k ≤ 100 * most))) := by
            unfold Hid
            rw [← HR.out]
            refine decide_eq_decide.2 ⟨fun hx => ?_, fun hx => ?_⟩
            · rw [hke]
              rcases hx.2.2.2 with h1 | ⟨h1, h2⟩
              · exact .inl h1
              · refine .inr ⟨?_, h2⟩
                rw [hB.out, hke, Bool.not_eq_true', decide_eq_false_iff_not]
                exact h1
            · rw [hke] at hx
              refine ⟨Hlen.out, h5, fun j hj => hI.out j (by omega), ?_⟩
              rcases hx with h1 | ⟨h1, h2⟩
              · exact .inl h1
              · refine .inr ⟨?_, h2⟩
                rw [hB.out, hke, Bool.not_eq_true', decide_eq_false_iff_not] at h1
                exact h1
          obtain ⟨fk, hfk⟩ : ∃ fk, fewN lo hi k = fk := ⟨_, rfl⟩
          rw [hfk] at hR
          rw [hfk]
          clear hke hf hfk hI hB
          by_cases g1 : fk ≤ most
          · have d1 : decide (fk ≤ most) = true := decide_eq_true g1
            have HN : Hid (r = true) := hR.out.trans (decide_eq_true (.inl g1))
            go_wp2_with fail
            go_ret
            exact ⟨ret_bool HN.out.symm, hbd _⟩
          · have d1 : decide (fk ≤ most) = false := decide_eq_false g1
            cases bb with
            | false =>
              have HN : Hid (r = false) := hR.out.trans (decide_eq_false fun hx => by rcases hx with hx | ⟨hx, -⟩; exact g1 hx; cases hx)
              go_wp2_with fail
              go_ret
              exact ⟨ret_bool HN.out.symm, hbd _⟩
            | true =>
              by_cases g2 : fk ≤ 100 * most
              · have d2 : decide (fk ≤ 100 * most) = true := decide_eq_true g2
                have HN : Hid (r = true) := hR.out.trans (decide_eq_true (.inr ⟨rfl, g2⟩))
                go_wp2_with fail
                go_ret
                exact ⟨ret_bool HN.out.symm, hbd _⟩
              · have d2 : decide (fk ≤ 100 * most) = false := decide_eq_false g2
                have HN : Hid (r = false) := hR.out.trans (decide_eq_false fun hx => by rcases hx with hx | ⟨-, hx⟩; exact g1 hx; exact g2 hx)
                go_wp2_with fail
                go_ret
                exact ⟨ret_bool HN.out.symm, hbd _⟩
    · have hd : decide ((5 : Int) < (lo.length : Int)) = true := by simp; omega
      have HN : Hid (r = false) := HR.out.symm.trans (decide_eq_false fun hr => h5 hr.2.1)
      go_enter Try.func13, Try.ntmps13
      go_wp2_with fail
      go_ret
      exact ⟨ret_bool HN.out.symm, Below.refl _ _⟩
  · have hlb : ((lo.length : Int) != (hi.length : Int)) = true := by simp; omega
    have HN : Hid (r = false) := HR.out.symm.trans (decide_eq_false fun hr => hlen hr.1)
    go_enter Try.func13, Try.ntmps13
    go_wp2_with fail
    go_ret
    exact ⟨ret_bool HN.out.symm, Below.refl _ _⟩
/-- lengths of at most 2000 and at most 5 axes bound the product -/
theorem vol_bd {lo hi : List Int} (h : FullX lo hi) (hd : ∀ j, j < lo.length → nth hi j - nth lo j ≤ 2000) : ∀ k, k ≤ lo.length → k ≤ 5 → vol lo hi k ≤ 2000 ^ k
  | 0, _, _ => by simp [vol]
  | k + 1, hk, h5 => by
    have h1 := vol_bd h hd k (by omega) (by omega)
    have h2 := hd k (by omega)
    have h3 := vol_pos h k (by omega)
    have h4 := h k (by omega)
    have h6 : vol lo hi k * (nth hi k - nth lo k) ≤ 2000 ^ k * 2000 := Int.mul_le_mul h1 h2 (by omega) (by omega)
    simp only [vol]
    rw [Int.pow_succ]
    exact h6
theorem vol_small {lo hi : List Int} (h5 : lo.length ≤ 5) (hd : ∀ j, j < lo.length → nth hi j - nth lo j ≤ 2000) : FullX lo hi → vol lo hi lo.length ≤ 9000000000000000000 := fun h => by
  have h1 := vol_bd h hd lo.length (Nat.le_refl _) h5
  have h2 : (2000 : Int) ^ lo.length ≤ 9000000000000000000 := by
    match lo.length, h5 with
    | 0, _ => decide
    | 1, _ => decide
    | 2, _ => decide
    | 3, _ => decide
    | 4, _ => decide
    | 5, _ => decide
  omega
end Go.Proofs.Ythkfjiioekhkhaa
