/- The reference's lengths of a range; all indices of a shape as plain lists. No condition beyond what each says. -/
import Derived.Test.YthkfjiioekhkhaaOdo1
namespace Go.Proofs.Ythkfjiioekhkhaa
open Go.RowKit Go.Shelf
set_option linter.unusedVariables false
set_option linter.unusedSimpArgs false

def dmI (x y : Int) : Int := if y - x < 0 then 0 else y - x
/-- the lengths of a range -/
def dimsX (lo hi : List Int) : List Int := mixX dmI lo hi
set_option maxRecDepth 100000 in
set_option maxHeartbeats 4000000 in
theorem RefDims4_any (p q : Option Addr) (c f : Nat) (lo hi : List Int) (hle : lo.length ≤ hi.length) (hl : lo.length ≤ 1000000) (hd : ∀ j, j < lo.length → NearX lo hi j) (w : World) (h : Ints w p lo) (h' : Ints w q hi) :
    Calls Try.prog 38 #[.slice p lo.length c, .slice q hi.length f] w (RowRet (dimsX lo hi) w) := by
  have HD := Lib.hid hd
  clear hd
  go_enter Try.func38, Try.ntmps38
  go_wp2_with fail
  have h0 : w.ownsRow w.heap.size 3 1 (.slice none 0 0) 0 (((dimsX lo hi).take 0).map (.int .i64)) := World.ownsRow_nil _ _ _ _
  go_loopw [5, 6] (fun v i wr => ∃ (k : Nat) (v' : Value), k ≤ lo.length ∧ i = .int .i64 k ∧ v' = v ∧ wr.ownsRow w.heap.size 3 1 v' k (((dimsX lo hi).take k).map (.int .i64)) ∧ Below w.heap.size w wr) (fun _ i _ => lo.length - (intOf i).toNat)
  case atStart => exact ⟨0, _, Nat.zero_le _, rfl, rfl, h0, Below.refl _ _⟩
  case round =>
    obtain ⟨k, v, hk, rfl, rfl, hown, hbr⟩ := hrel
    clear h0
    by_cases hlt : k < lo.length
    · have hlt' : k < hi.length := by omega
      obtain ⟨gl, ol, rfl, hgl, ca⟩ := h.at hlt
      obtain ⟨gh, oh, rfl, hgh, cb⟩ := h'.at hlt'
      have hi1 : (k : Int) < (lo.length : Int) := by omega
      have hi2 : (k : Int) < (hi.length : Int) := by omega
      have hml : k < (dimsX lo hi).length := by unfold dimsX; rw [mix_len hle]; exact hlt
      have Htk := Lib.hid (take_nth hml)
      obtain ⟨x, hx⟩ : ∃ x, nth lo k = x := ⟨_, rfl⟩
      obtain ⟨y, hy⟩ : ∃ y, nth hi k = y := ⟨_, rfl⟩
      have HX : Hid (nth (dimsX lo hi) k = dmI x y) := by rw [Hid, ← hx, ← hy]; exact mix_nth hlt hlt'
      have hn := HD.out k hlt
      unfold NearX at hn
      rw [hx, hy] at hn
      rw [hx] at ca
      rw [hy] at cb
      have hwr : IntKind.i64.wrap (y - x) = y - x := by rw [IntKind.wrap_i64]; omega
      have hsz := hbr.size
      have hKS : Keeps (fun w' => (gl < w'.heap.size ∧ w'.cell? ⟨gl, ol + k, none⟩ = some (.int .i64 x)) ∧ (gh < w'.heap.size ∧ w'.cell? ⟨gh, oh + k, none⟩ = some (.int .i64 y))) := (keeps_cell _ _ _).and (keeps_cell _ _ _)
      have hSg : ∀ z, Below w.heap.size w z → (fun w' => (gl < w'.heap.size ∧ w'.cell? ⟨gl, ol + k, none⟩ = some (.int .i64 x)) ∧ (gh < w'.heap.size ∧ w'.cell? ⟨gh, oh + k, none⟩ = some (.int .i64 y))) z := fun z hb => ⟨⟨Nat.lt_of_lt_of_le hgl hb.size, (hb.cell (p := ⟨gl, ol + k, none⟩) hgl).trans ca⟩, ⟨Nat.lt_of_lt_of_le hgh hb.size, (hb.cell (p := ⟨gh, oh + k, none⟩) hgh).trans cb⟩⟩
      have hS := hSg _ hbr
      have hbd := fun n => below_t hbr (below_drewN _ wr n)
      clear hx hy hml hn ca cb
      go_upto_region 5 with fail
      refine wp_region_noPanic ?_
      refine wp_region_held_drew (S := (fun w' => (gl < w'.heap.size ∧ w'.cell? ⟨gl, ol + k, none⟩ = some (.int .i64 x)) ∧ (gh < w'.heap.size ∧ w'.cell? ⟨gh, oh + k, none⟩ = some (.int .i64 y)))) (by kernel_rfl) ?_ (fun hHeld => ?_)
      · (try dsimp only); first | exact hS5 | exact hKS _ _ (by first | exact hHeld | exact hS) (by first | assumption | (go_grown; done) | (refine from_drew ?_; go_grown; done))
      refine takeH 0 (some 13) (v := ?_) rfl rfl (by kernel_rfl) (by kernel_rfl) (by kernel_rfl) (by rfl) ?_ (by exact hHeld) ?_
      rotate_left
      · intro w hSw; (try dsimp only at hSw); go_simp; try (with_reducible rfl)
      try simp only [Act.put, List.setIfInBounds_toArray, List.set_cons_zero, List.set_cons_succ]
      refine takeH 1 (some 14) (v := ?_) rfl rfl (by kernel_rfl) (by kernel_rfl) (by kernel_rfl) (by rfl) ?_ (by exact hHeld) ?_
      rotate_left
      · intro w hSw; (try dsimp only at hSw); go_simp; try (with_reducible rfl)
      try simp only [Act.put, List.setIfInBounds_toArray, List.set_cons_zero, List.set_cons_succ]
      refine takeH 2 (some 15) (v := ?_) rfl rfl (by kernel_rfl) (by kernel_rfl) (by kernel_rfl) (by rfl) ?_ (by exact hHeld) ?_
      rotate_left
      · intro w hSw; (try dsimp only at hSw); go_simp; try (with_reducible rfl)
      try simp only [Act.put, List.setIfInBounds_toArray, List.set_cons_zero, List.set_cons_succ]
      refine takeH 3 (some 16) (v := ?_) rfl rfl (by kernel_rfl) (by kernel_rfl) (by kernel_rfl) (by rfl) ?_ (by exact hHeld) ?_
      rotate_left
      · intro w hSw; (try dsimp only at hSw); go_simp; try (with_reducible rfl)
      try simp only [Act.put, List.setIfInBounds_toArray, List.set_cons_zero, List.set_cons_succ]
      refine takeH 4 (some 17) (v := ?_) rfl rfl (by kernel_rfl) (by kernel_rfl) (by kernel_rfl) (by rfl) ?_ (by exact hHeld) ?_
      rotate_left
      · intro w hSw; (try dsimp only at hSw); go_simp; try (with_reducible rfl)
      try simp only [Act.put, List.setIfInBounds_toArray, List.set_cons_zero, List.set_cons_succ]
      refine takeH 5 (some 18) (v := ?_) rfl rfl (by kernel_rfl) (by kernel_rfl) (by kernel_rfl) (by rfl) ?_ (by exact hHeld) ?_
      rotate_left
      · intro w hSw; (try dsimp only at hSw); go_simp; try (with_reducible rfl)
      try simp only [Act.put, List.setIfInBounds_toArray, List.set_cons_zero, List.set_cons_succ]
      refine takeH 6 (some 19) (v := ?_) rfl rfl (by kernel_rfl) (by kernel_rfl) (by kernel_rfl) (by rfl) ?_ (by exact hHeld) ?_
      rotate_left
      · intro w hSw; (try dsimp only at hSw); go_simp; try (with_reducible rfl)
      try simp only [Act.put, List.setIfInBounds_toArray, List.set_cons_zero, List.set_cons_succ]
      refine takeH 7 (some 20) (v := ?_) rfl rfl (by kernel_rfl) (by kernel_rfl) (by kernel_rfl) (by rfl) ?_ (by exact hHeld) ?_
      rotate_left
      · intro w hSw; (try dsimp only at hSw); go_simp; try (with_reducible rfl)
      try simp only [Act.put, List.setIfInBounds_toArray, List.set_cons_zero, List.set_cons_succ]
      refine takeH 8 (some 21) (v := ?_) rfl rfl (by kernel_rfl) (by kernel_rfl) (by kernel_rfl) (by rfl) ?_ (by exact hHeld) ?_
      rotate_left
      · intro w hSw; (try dsimp only at hSw); go_simp; try (with_reducible rfl)
      try simp only [Act.put, List.setIfInBounds_toArray, List.set_cons_zero, List.set_cons_succ]
      refine takeH 9 (some 22) (v := ?_) rfl rfl (by kernel_rfl) (by kernel_rfl) (by kernel_rfl) (by rfl) ?_ (by exact hHeld) ?_
      rotate_left
      · intro w hSw; (try dsimp only at hSw); go_simp; try (with_reducible rfl)
      try simp only [Act.put, List.setIfInBounds_toArray, List.set_cons_zero, List.set_cons_succ]
      refine wpAnyH_ready (rs := [10]) (by kernel_rfl) (by simp) ?_
      refine stepH 10 rfl (by rfl) (fun K hK => ?_) ?_
      · go_simp
        refine hK.out _ _ ?_ (fun hNew => ?_)
        · (try dsimp only); first | exact hS5 | exact hKS _ _ (by first | exact hHeld | exact hS) (by first | assumption | (go_grown; done) | (refine from_drew ?_; go_grown; done))
        clear hK K hHeld
        have hHeld := hNew
        clear hNew
        try dsimp only at hHeld
        try simp only [Act.put, List.setIfInBounds_toArray, List.set_cons_zero, List.set_cons_succ]
        refine wpAnyH_ready (rs := [11]) (by kernel_rfl) (by simp) ?_
        refine stepH 11 rfl (by rfl) (fun K hK => ?_) ?_
        · go_simp
          refine hK.out _ _ ?_ (fun hNew => ?_)
          · (try dsimp only); first | exact hS5 | exact hKS _ _ (by first | exact hHeld | exact hS) (by first | assumption | (go_grown; done) | (refine from_drew ?_; go_grown; done))
          clear hK K hHeld
          have hHeld := hNew
          clear hNew
          try dsimp only at hHeld
          try simp only [Act.put, List.setIfInBounds_toArray, List.set_cons_zero, List.set_cons_succ]
          refine wpAnyH_ready (rs := [12]) (by kernel_rfl) (by simp) ?_
          refine stepH 12 rfl (by rfl) (fun K hK => ?_) ?_
          · (refine wp_append_lone _ _ rfl w.heap.size v k _ rfl (hown.alloc _) wr.heap.size (dmI x y) rfl (heap_alloc_new _ _) (by omega) (by simp; omega) ?_); intro g5 cap5 w5 hown5 hgrow5 hat5; have hb5 := below_append (wr := wr.drewN _) (hbd _) hown hgrow5; have R5 := Lib.hid hown5; have hS5 := hSg _ hb5; clear hown5 hgrow5 hat5
            refine hK.out _ _ ?_ (fun hNew => ?_)
            · (try dsimp only); first | exact hS5 | exact hKS _ _ (by first | exact hHeld | exact hS) (by first | assumption | (go_grown; done) | (refine from_drew ?_; go_grown; done))
            clear hK K hHeld
            have hHeld := hNew
            clear hNew
            try dsimp only at hHeld
            try simp only [Act.put, List.setIfInBounds_toArray, List.set_cons_zero, List.set_cons_succ]
            refine takeH 13 (some 5) (v := ?_) rfl rfl (by kernel_rfl) (by kernel_rfl) (by kernel_rfl) (by rfl) ?_ (by exact hHeld) ?_
            rotate_left
            · intro w hSw; (try dsimp only at hSw); go_simp; try (with_reducible rfl)
            try simp only [Act.put, List.setIfInBounds_toArray, List.set_cons_zero, List.set_cons_succ]
            refine wpAnyH_done (by kernel_rfl) ?_ _
            refine NoPanic.normal ?_
            go_wp2_with fail
            all_goals (go_roundw; (case rel => exact ⟨k + 1, _, by omega, by go_num, rfl, by rw [Htk.out, HX.out, List.map_append]; exact R5.out, hb5⟩); (case measure => simp [intOf]; omega))
          exact AllReadyH.nil
        exact AllReadyH.nil
      exact AllReadyH.nil
    · have hi1 : ¬ (k : Int) < (lo.length : Int) := by omega
      have hke : k = lo.length := by omega
      have hown : wr.ownsRow w.heap.size 3 1 v lo.length ((dimsX lo hi).map (.int .i64)) := by
        rw [hke, List.take_of_length_le (by unfold dimsX; rw [mix_len hle]; omega)] at hown
        exact hown
      obtain ⟨r, c', rfl, hN⟩ := row_new hown
      clear hke hown
      go_wp2_with fail
      go_ret
      exact rowRet (by simp) r c' hN hbr
/-- each list with each number below d behind it -/
def stepA (out : List (List Int)) (d : Int) : List (List Int) := out.flatMap fun r => (List.range d.toNat).map fun (n : Nat) => r ++ [(n : Int)]
def allX (s : List Int) : List (List Int) := s.foldl stepA [[]]
theorem stepA_len (out : List (List Int)) (d : Int) : (stepA out d).length = out.length * d.toNat := by
  unfold stepA
  induction out with
  | nil => simp
  | cons r out ih =>
    rw [List.flatMap_cons, List.length_append, ih]
    simp [Nat.succ_mul, Nat.add_comm]
theorem allX_snoc (s : List Int) (d : Int) : allX (s ++ [d]) = stepA (allX s) d := by simp [allX]
theorem stepA_mem {out : List (List Int)} {d : Int} {r : List Int} : r ∈ stepA out d ↔ ∃ a ∈ out, ∃ n : Nat, (n : Int) < d ∧ r = a ++ [(n : Int)] := by
  unfold stepA
  rw [List.mem_flatMap]
  constructor
  · rintro ⟨a, ha, h⟩
    obtain ⟨n, hn, rfl⟩ := List.mem_map.1 h
    exact ⟨a, ha, n, by have := List.mem_range.1 hn; omega, rfl⟩
  · rintro ⟨a, ha, n, hn, rfl⟩
    exact ⟨a, ha, List.mem_map.2 ⟨n, List.mem_range.2 (by omega), rfl⟩⟩
theorem nth_app_lt {a b : List Int} {j : Nat} (h : j < a.length) : nth (a ++ b) j = nth a j := by
  unfold nth
  rw [List.getD_eq_getElem?_getD, List.getD_eq_getElem?_getD, List.getElem?_append_left h]
theorem nth_app_last {a : List Int} {x : Int} : nth (a ++ [x]) a.length = x := by
  unfold nth
  rw [List.getD_eq_getElem?_getD, List.getElem?_append_right (Nat.le_refl _)]
  simp
theorem allX_take_mem {s : List Int} : ∀ k, k ≤ s.length → ∀ r, r ∈ allX (s.take k) ↔ (r.length = k ∧ ∀ j, j < k → 0 ≤ nth r j ∧ nth r j < nth s j)
  | 0, _, r => by
    simp [allX]
  | k + 1, hk, r => by
    rw [take_nth (by omega), allX_snoc, stepA_mem]
    constructor
    · rintro ⟨a, ha, n, hn, rfl⟩
      obtain ⟨h1, h2⟩ := (allX_take_mem k (by omega) a).1 ha
      refine ⟨by simp [h1], fun j hj => ?_⟩
      by_cases hjk : j = k
      · subst hjk
        rw [← h1, nth_app_last, h1]
        omega
      · rw [nth_app_lt (by omega)]
        exact h2 j (by omega)
    · rintro ⟨h1, h2⟩
      have h3 := h2 k (by omega)
      have e : r.take (k + 1) = r.take k ++ [nth r k] := take_nth (by omega)
      rw [List.take_of_length_le (by omega)] at e
      refine ⟨r.take k, (allX_take_mem k (by omega) _).2 ⟨by rw [List.length_take]; omega, fun j hj => ?_⟩, (nth r k).toNat, by omega, ?_⟩
      · have h4 := h2 j (by omega)
        have e2 : nth r j = nth (r.take k) j := by
          conv => lhs; rw [e]
          exact nth_app_lt (by rw [List.length_take]; omega)
        rw [← e2]
        exact h4
      · rw [Int.toNat_of_nonneg h3.1]
        exact e
theorem allX_mem {s r : List Int} : r ∈ allX s ↔ (r.length = s.length ∧ ∀ j, j < s.length → 0 ≤ nth r j ∧ nth r j < nth s j) := by
  have := allX_take_mem (s := s) s.length (Nat.le_refl _) r
  rwa [List.take_length] at this
theorem dims_len {lo hi : List Int} (h : lo.length ≤ hi.length) : (dimsX lo hi).length = lo.length := mix_len h
theorem dims_nth {lo hi : List Int} (h : lo.length ≤ hi.length) {k : Nat} (hk : k < lo.length) : nth (dimsX lo hi) k = dmI (nth lo k) (nth hi k) := mix_nth hk (by omega)
theorem allX_full {lo hi : List Int} (h : lo.length ≤ hi.length) (hf : FullX lo hi) : ∀ k, k ≤ lo.length → ((allX ((dimsX lo hi).take k)).length : Int) = vol lo hi k
  | 0, _ => by simp [allX, vol]
  | k + 1, hk => by
    rw [take_nth (by rw [dims_len h]; omega), allX_snoc, stepA_len, Int.natCast_mul, allX_full h hf k (by omega), dims_nth h (by omega)]
    have := hf k (by omega)
    have e : dmI (nth lo k) (nth hi k) = nth hi k - nth lo k := by unfold dmI; rw [if_neg (by omega)]
    rw [e, Int.toNat_of_nonneg (by omega)]
    rfl
theorem allX_zero {lo hi : List Int} (h : lo.length ≤ hi.length) {j : Nat} (hj : j < lo.length) (hx : nth hi j ≤ nth lo j) : ∀ k, j < k → k ≤ lo.length → (allX ((dimsX lo hi).take k)).length = 0
  | 0, h0, _ => by omega
  | k + 1, h1, hk => by
    rw [take_nth (by rw [dims_len h]; omega), allX_snoc, stepA_len]
    by_cases hjk : j = k
    · subst hjk
      rw [dims_nth h hj]
      have e : dmI (nth lo j) (nth hi j) = 0 := by unfold dmI; split <;> omega
      rw [e]
      simp
    · rw [allX_zero h hj hx k (by omega) (by omega)]
      simp
theorem allX_count {lo hi : List Int} (h : lo.length ≤ hi.length) : ((allX (dimsX lo hi)).length : Int) = countX lo hi := by
  unfold countX
  by_cases hf : FullX lo hi
  · rw [if_pos hf]
    have := allX_full h hf lo.length (Nat.le_refl _)
    rwa [List.take_of_length_le (by rw [dims_len h]; omega)] at this
  · rw [if_neg hf]
    unfold FullX at hf
    obtain ⟨j, hj⟩ := Classical.not_forall.1 hf
    obtain ⟨hj1, hj2⟩ := Classical.not_imp.1 hj
    have := allX_zero h hj1 (by omega) lo.length hj1 (Nat.le_refl _)
    rw [List.take_of_length_le (by rw [dims_len h]; omega)] at this
    rw [this]
    rfl
end Go.Proofs.Ythkfjiioekhkhaa
