/- The text of a list of numbers names the list: two lists with the same text are the same. No condition; plain Lean. -/
import Derived.Lib.ItoaLen
import Derived.Lib.Join
namespace Go.Proofs.YtfifjokmhhakkaaDoor
set_option linter.unusedVariables false
set_option linter.unusedSimpArgs false

/-- the number that digits write -/
def valD (l : List UInt8) : Nat := l.foldl (fun a c => 10 * a + (c.toNat - 48)) 0
theorem valD_snoc (l : List UInt8) (c : UInt8) : valD (l ++ [c]) = 10 * valD l + (c.toNat - 48) := by
  unfold valD
  rw [List.foldl_append]
  rfl
theorem dig_nat {i : Nat} (h : i < 10) : (UInt8.ofNat (48 + i)).toNat = 48 + i := by
  rw [UInt8.toNat_ofNat']
  omega
theorem dec_val : ∀ u : Nat, valD (Lib.decDigits u) = u := by
  intro u
  induction u using Nat.strongRecOn with
  | _ u ih =>
    rw [Lib.decDigits]
    split
    · rename_i h
      show 10 * 0 + ((UInt8.ofNat (48 + u)).toNat - 48) = u
      rw [dig_nat h]
      omega
    · rename_i h
      rw [valD_snoc, ih (u / 10) (by omega), dig_nat (by omega)]
      omega
theorem dec_low : ∀ u : Nat, ∀ c ∈ Lib.decDigits u, 48 ≤ c.toNat := by
  intro u
  induction u using Nat.strongRecOn with
  | _ u ih =>
    intro c hc
    rw [Lib.decDigits] at hc
    split at hc
    · rename_i h
      rw [List.mem_singleton] at hc
      rw [hc, dig_nat h]
      omega
    · rename_i h
      rcases List.mem_append.1 hc with hc | hc
      · exact ih (u / 10) (by omega) c hc
      · rw [List.mem_singleton] at hc
        rw [hc, dig_nat (by omega)]
        omega
theorem dec_some (u : Nat) : Lib.decDigits u ≠ [] := by
  rw [Lib.decDigits]
  split <;> simp
theorem dec_inj {u v : Nat} (h : Lib.decDigits u = Lib.decDigits v) : u = v := by
  rw [← dec_val u, h, dec_val]
theorem dec_minus {u : Nat} {r : List UInt8} (h : Lib.decDigits u = 45 :: r) : False := by
  have := dec_low u 45 (by rw [h]; exact List.mem_cons_self ..)
  revert this
  decide
theorem itoa_inj {x y : Int} (h : Lib.itoa x = Lib.itoa y) : x = y := by
  unfold Lib.itoa at h
  split at h <;> split at h
  · have := dec_inj (List.cons.inj h).2
    omega
  · exact (dec_minus h.symm).elim
  · exact (dec_minus h).elim
  · have := dec_inj h
    omega
theorem itoa_blank (x : Int) : (32 : UInt8) ∉ Lib.itoa x := by
  intro h
  unfold Lib.itoa at h
  split at h
  · rcases List.mem_cons.1 h with h | h
    · revert h; decide
    · have := dec_low _ _ h; revert this; decide
  · have := dec_low _ _ h; revert this; decide
theorem itoa_some (x : Int) : Lib.itoa x ≠ [] := by
  unfold Lib.itoa
  split
  · simp
  · exact dec_some _
/-- what stands in front of the first blank -/
theorem cut_blank : ∀ {a b r s : List UInt8}, (32 : UInt8) ∉ a → (32 : UInt8) ∉ b → a ++ 32 :: r = b ++ 32 :: s → a = b ∧ r = s
  | [], [], r, s, _, _, h => ⟨rfl, by simpa using h⟩
  | [], y :: b, r, s, _, hb, h => by
    have : (32 : UInt8) = y := (List.cons.inj h).1
    exact (hb (this ▸ List.mem_cons_self ..)).elim
  | x :: a, [], r, s, ha, _, h => by
    have : x = (32 : UInt8) := (List.cons.inj h).1
    exact (ha (this ▸ List.mem_cons_self ..)).elim
  | x :: a, y :: b, r, s, ha, hb, h => by
    obtain ⟨h1, h2⟩ := List.cons.inj h
    obtain ⟨h3, h4⟩ := cut_blank (fun h => ha (List.mem_cons_of_mem _ h)) (fun h => hb (List.mem_cons_of_mem _ h)) h2
    exact ⟨by rw [h1, h3], h4⟩
theorem tail_cons (x : Int) (xs : List Int) : Lib.joinTail [32] ((x :: xs).map Lib.itoa) = 32 :: (Lib.itoa x ++ Lib.joinTail [32] (xs.map Lib.itoa)) := rfl
theorem tail_cut {x y : Int} {xs ys : List Int} (h : Lib.itoa x ++ Lib.joinTail [32] (xs.map Lib.itoa) = Lib.itoa y ++ Lib.joinTail [32] (ys.map Lib.itoa)) :
    Lib.itoa x = Lib.itoa y ∧ Lib.joinTail [32] (xs.map Lib.itoa) = Lib.joinTail [32] (ys.map Lib.itoa) := by
  cases xs with
  | nil =>
    cases ys with
    | nil =>
      have : Lib.joinTail [32] (([] : List Int).map Lib.itoa) = [] := rfl
      rw [this, List.append_nil, List.append_nil] at h
      exact ⟨h, rfl⟩
    | cons z ys =>
      rw [tail_cons] at h
      have : (32 : UInt8) ∈ Lib.itoa x ++ Lib.joinTail [32] (([] : List Int).map Lib.itoa) := by rw [h]; simp
      rw [show Lib.joinTail [32] (([] : List Int).map Lib.itoa) = [] from rfl, List.append_nil] at this
      exact (itoa_blank x this).elim
  | cons z xs =>
    cases ys with
    | nil =>
      rw [tail_cons] at h
      have : (32 : UInt8) ∈ Lib.itoa y ++ Lib.joinTail [32] (([] : List Int).map Lib.itoa) := by rw [← h]; simp
      rw [show Lib.joinTail [32] (([] : List Int).map Lib.itoa) = [] from rfl, List.append_nil] at this
      exact (itoa_blank y this).elim
    | cons z' ys =>
      rw [tail_cons, tail_cons] at h
      obtain ⟨h1, h2⟩ := cut_blank (itoa_blank x) (itoa_blank y) h
      exact ⟨h1, by rw [tail_cons, tail_cons, h2]⟩
theorem tail_inj : ∀ {xs ys : List Int}, Lib.joinTail [32] (xs.map Lib.itoa) = Lib.joinTail [32] (ys.map Lib.itoa) → xs = ys
  | [], [], _ => rfl
  | [], y :: ys, h => by rw [tail_cons] at h; cases h
  | x :: xs, [], h => by rw [tail_cons] at h; cases h
  | x :: xs, y :: ys, h => by
    rw [tail_cons, tail_cons] at h
    obtain ⟨h1, h2⟩ := tail_cut (List.cons.inj h).2
    rw [itoa_inj h1, tail_inj h2]
theorem join_inj {xs ys : List Int} (h : Lib.join (xs.map Lib.itoa) [32] = Lib.join (ys.map Lib.itoa) [32]) : xs = ys := by
  cases xs with
  | nil =>
    cases ys with
    | nil => rfl
    | cons y ys =>
      rw [List.map_cons, Lib.join_cons] at h
      exact (itoa_some y (List.append_eq_nil_iff.1 h.symm).1).elim
  | cons x xs =>
    cases ys with
    | nil =>
      rw [List.map_cons, Lib.join_cons] at h
      exact (itoa_some x (List.append_eq_nil_iff.1 h).1).elim
    | cons y ys =>
      rw [List.map_cons, List.map_cons, Lib.join_cons, Lib.join_cons] at h
      obtain ⟨h1, h2⟩ := tail_cut h
      rw [itoa_inj h1, tail_inj h2]
/-- the first k texts, then one more -/
theorem join_snoc (xs : List Int) (k : Nat) (x : Int) (h : xs[k]? = some x) (hk : 0 < k) : Lib.join ((xs.take (k + 1)).map Lib.itoa) [32] = Lib.join ((xs.take k).map Lib.itoa) [32] ++ [32] ++ Lib.itoa x := by
  cases xs with
  | nil => cases h
  | cons y xs =>
    obtain ⟨j, rfl⟩ : ∃ j, k = j + 1 := ⟨k - 1, by omega⟩
    have h' : (xs.map Lib.itoa)[j]? = some (Lib.itoa x) := by rw [List.getElem?_map]; rw [List.getElem?_cons_succ] at h; rw [h]; rfl
    rw [List.take_succ_cons, List.take_succ_cons, List.map_cons, List.map_cons, Lib.join_cons, Lib.join_cons, List.map_take, List.map_take, Lib.joinTail_take_succ _ _ _ _ h']
    simp [List.append_assoc]
theorem lens_one (a : List UInt8) (r : List (List UInt8)) : Lib.lens (a :: r) = a.length + Lib.lens r := by simp [Lib.lens]
theorem lens_itoa : ∀ {xs : List Int}, (∀ x ∈ xs, -9223372036854775808 ≤ x ∧ x ≤ 9223372036854775807) → Lib.lens (xs.map Lib.itoa) ≤ 21 * xs.length
  | [], _ => Nat.le_refl _
  | x :: xs, h => by
    have h1 := Lib.itoa_length_le x (h x (List.mem_cons_self ..)).1 (h x (List.mem_cons_self ..)).2
    have h2 := lens_itoa (xs := xs) fun y hy => h y (List.mem_cons_of_mem _ hy)
    rw [List.map_cons, lens_one, List.length_cons]
    omega
theorem join_short {xs : List Int} (h : ∀ x ∈ xs, -9223372036854775808 ≤ x ∧ x ≤ 9223372036854775807) : (Lib.join (xs.map Lib.itoa) [32]).length ≤ 22 * xs.length := by
  cases xs with
  | nil => exact Nat.le_refl _
  | cons x xs =>
    have := lens_itoa h
    rw [List.map_cons] at this ⊢
    rw [Lib.join_length, List.length_map]
    simp only [List.length_cons, List.length_nil] at this ⊢
    omega
end Go.Proofs.YtfifjokmhhakkaaDoor
