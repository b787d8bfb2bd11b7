/- Plain laws on left operands: how many different numbers a list has, and when these are all numbers up to its greatest. No program in sight. -/
import Derived.Test.YtolkgjbljdmadaaRef02
import Derived.Maps.OwnSet
namespace Go.Proofs.Ytolkgjbljdmadaa
open Go.RowKit Go.Shelf

/-- the list without repeats -/
def dist (xs : List Int) : List Int := xs.foldl (fun acc x => if x ∈ acc then acc else acc ++ [x]) []

theorem dist_fold (xs : List Int) : ∀ acc : List Int, acc.Nodup → (xs.foldl (fun acc x => if x ∈ acc then acc else acc ++ [x]) acc).Nodup ∧ ∀ y, y ∈ xs.foldl (fun acc x => if x ∈ acc then acc else acc ++ [x]) acc ↔ y ∈ acc ∨ y ∈ xs := by
  induction xs with
  | nil => intro acc h; exact ⟨h, fun y => by simp⟩
  | cons x xs ih =>
    intro acc h
    rw [List.foldl_cons]
    by_cases hx : x ∈ acc
    · rw [if_pos hx]
      obtain ⟨h1, h2⟩ := ih acc h
      refine ⟨h1, fun y => (h2 y).trans ?_⟩
      constructor
      · rintro (h | h)
        · exact .inl h
        · exact .inr (List.mem_cons_of_mem _ h)
      · rintro (h | h)
        · exact .inl h
        · rcases List.mem_cons.1 h with rfl | h
          · exact .inl hx
          · exact .inr h
    · rw [if_neg hx]
      obtain ⟨h1, h2⟩ := ih (acc ++ [x]) (by
        rw [List.nodup_append]
        refine ⟨h, by simp, fun a ha b hb => ?_⟩
        rw [List.mem_singleton] at hb
        subst hb
        intro e
        subst e
        exact hx ha)
      refine ⟨h1, fun y => (h2 y).trans ?_⟩
      simp [List.mem_append, or_assoc]

theorem dist_nodup (xs : List Int) : (dist xs).Nodup := (dist_fold xs [] (by simp)).1
theorem dist_mem (xs : List Int) (y : Int) : y ∈ dist xs ↔ y ∈ xs := by
  have := (dist_fold xs [] (by simp)).2 y
  simpa [dist] using this
theorem dist_le (xs : List Int) : (dist xs).length ≤ xs.length := (dist_nodup xs).length_le_of_subset fun y h => (dist_mem xs y).1 h

theorem any_key (acc : List Int) (x : Int) : (acc.map (Lit.int .i64)).any (fun y => y.sameKey (.int .i64 x)) = decide (x ∈ acc) := by
  rw [Bool.eq_iff_iff, List.any_eq_true, decide_eq_true_iff]
  constructor
  · rintro ⟨y, hy, he⟩
    obtain ⟨z, hz, rfl⟩ := List.mem_map.1 hy
    have : z = x := by simpa [Lit.sameKey] using he
    exact this ▸ hz
  · intro h
    exact ⟨_, List.mem_map_of_mem h, by simp [Lit.sameKey]⟩

theorem add_fold (xs : List Int) : ∀ acc : List Int, (xs.map (Lit.int .i64)).foldl Maps.addKey (acc.map (Lit.int .i64)) = (xs.foldl (fun acc x => if x ∈ acc then acc else acc ++ [x]) acc).map (Lit.int .i64) := by
  induction xs with
  | nil => intro acc; rfl
  | cons x xs ih =>
    intro acc
    rw [List.map_cons, List.foldl_cons, List.foldl_cons, Maps.addKey, any_key]
    by_cases h : x ∈ acc
    · rw [if_pos h, decide_eq_true h, if_pos rfl, ih]
    · rw [if_neg h, decide_eq_false h, if_neg (by simp), show acc.map (Lit.int .i64) ++ [Lit.int .i64 x] = (acc ++ [x]).map (Lit.int .i64) by simp, ih]

/-- the set of a list's numbers, as the map 'seen' holds it -/
def seenD (xs : List Int) : DataW Unit := Maps.setOf (.lit (.bool true)) (xs.map (Lit.int .i64))
theorem seenD_size (xs : List Int) : Maps.size (seenD xs) = (dist xs).length := by
  unfold seenD
  rw [Maps.size_setOf _ _ (fun x hx => by obtain ⟨_, _, rfl⟩ := List.mem_map.1 hx; trivial)]
  have := add_fold xs []
  rw [List.map_nil] at this
  rw [this, List.length_map]
  rfl
theorem seenD_nil : seenD [] = .map [] := by simp [seenD, Maps.setOf]
theorem seenD_snoc (xs : List Int) (x : Int) : seenD (xs ++ [x]) = (seenD xs).put (.int .i64 x) (.lit (.bool true)) := by
  unfold seenD
  rw [List.map_append, List.map_cons, List.map_nil, Maps.setOf_snoc]

/-- the numbers 0 to m - 1 -/
def upto (m : Nat) : List Int := (List.range m).map fun k : Nat => (k : Int)
theorem upto_len (m : Nat) : (upto m).length = m := by simp [upto]
theorem upto_mem (m : Nat) (y : Int) : y ∈ upto m ↔ 0 ≤ y ∧ y < (m : Int) := by
  unfold upto
  rw [List.mem_map]
  constructor
  · rintro ⟨k, hk, rfl⟩
    have := List.mem_range.1 hk
    omega
  · rintro ⟨h0, h1⟩
    exact ⟨y.toNat, List.mem_range.2 (by omega), by omega⟩
theorem upto_nodup (m : Nat) : (upto m).Nodup := by
  unfold upto
  rw [List.nodup_iff_pairwise_ne, List.pairwise_map]
  refine (List.nodup_iff_pairwise_ne.1 (List.nodup_range (n := m))).imp fun h => ?_
  omega

/-- A LIST OF NUMBERS BELOW m HAS m DIFFERENT ONES EXACTLY IF IT HAS ALL OF THEM -/
theorem dist_full (xs : List Int) (m : Nat) (h : ∀ x ∈ xs, 0 ≤ x ∧ x < (m : Int)) : (dist xs).length = m ↔ ∀ k : Nat, k < m → (k : Int) ∈ xs := by
  have hsub : dist xs ⊆ upto m := fun y hy => (upto_mem m y).2 (h y ((dist_mem xs y).1 hy))
  have hle := (dist_nodup xs).length_le_of_subset hsub
  rw [upto_len] at hle
  constructor
  · intro he k hk
    apply Classical.byContradiction
    intro hno
    have hsub' : dist xs ⊆ (upto m).erase (k : Int) := fun y hy => by
      have hne : y ≠ (k : Int) := fun e => hno (e ▸ (dist_mem xs y).1 hy)
      exact (List.mem_erase_of_ne hne).2 (hsub hy)
    have := (dist_nodup xs).length_le_of_subset hsub'
    rw [List.length_erase_of_mem ((upto_mem m k).2 ⟨by omega, by omega⟩), upto_len] at this
    omega
  · intro hall
    have hsub' : upto m ⊆ dist xs := fun y hy => by
      obtain ⟨h0, h1⟩ := (upto_mem m y).1 hy
      have := hall y.toNat (by omega)
      rw [Int.toNat_of_nonneg h0] at this
      exact (dist_mem xs y).2 this
    have := (upto_nodup m).length_le_of_subset hsub'
    rw [upto_len] at this
    omega

/-- the greatest number of a list, -1 at least -/
def most (xs : List Int) : Int := xs.foldl (fun m x => if m < x then x else m) (-1)
theorem most_fold (xs : List Int) : ∀ m : Int, m ≤ xs.foldl (fun m x => if m < x then x else m) m ∧ (∀ x ∈ xs, x ≤ xs.foldl (fun m x => if m < x then x else m) m) ∧ (xs.foldl (fun m x => if m < x then x else m) m = m ∨ xs.foldl (fun m x => if m < x then x else m) m ∈ xs) := by
  induction xs with
  | nil => intro m; exact ⟨Int.le_refl _, by simp, .inl rfl⟩
  | cons y xs ih =>
    intro m
    rw [List.foldl_cons]
    obtain ⟨h1, h2, h3⟩ := ih (if m < y then y else m)
    have hm : m ≤ (if m < y then y else m) ∧ y ≤ (if m < y then y else m) ∧ ((if m < y then y else m) = m ∨ (if m < y then y else m) = y) := by split <;> omega
    refine ⟨by omega, fun x hx => ?_, ?_⟩
    · rcases List.mem_cons.1 hx with rfl | hx
      · omega
      · exact h2 x hx
    · rcases h3 with h3 | h3
      · rcases hm.2.2 with e | e
        · exact .inl (h3.trans e)
        · exact .inr (by rw [h3, e]; exact List.mem_cons_self ..)
      · exact .inr (List.mem_cons_of_mem _ h3)

/-- a shape's error where a number is negative, or too great -/
theorem shapeS_neg {s : List Int} (h : s.any neg = true) : shapeS s = 6 := by unfold shapeS; rw [if_pos h]
theorem shapeS_big {s : List Int} (h : s.any neg = false) (h' : s.any big = true) : shapeS s = 7 := by
  unfold shapeS
  rw [if_neg (by simp [h])]
  split
  · rfl
  · unfold prodR
    rw [if_neg (by simp [h]), if_pos h']
theorem shapeS_long {s : List Int} (h : s.any neg = false) (h' : 16 < s.length) : shapeS s = 7 := by
  unfold shapeS
  rw [if_neg (by simp [h]), if_pos h']
end Go.Proofs.Ytolkgjbljdmadaa
