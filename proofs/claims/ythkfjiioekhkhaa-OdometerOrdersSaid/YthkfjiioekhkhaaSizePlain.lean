/- Plain functions on lists of numbers: what package size and its reference compute. No program in sight, no condition. -/
import Derived.Test.YthkfjiioekhkhaaBase
namespace Go.Proofs.Ythkfjiioekhkhaa

def mulS (a b limit : Int) : Int × Bool :=
  if a < 0 ∨ b < 0 ∨ limit < a ∨ limit < b ∨ (0 < b ∧ limit / b < a) then (0, false) else (a * b, true)

theorem mul_le {a b l : Int} (h2 : 0 < b) (h3 : a ≤ l / b) : a * b ≤ l := Int.mul_le_of_le_ediv h2 h3

def neg (x : Int) : Bool := decide (x < 0)
def big (x : Int) : Bool := decide (65536 < x)
def checkS (l : List Int) : Int := if l.any neg then 6 else if l.any big then 7 else 0

theorem checkS_cases (l : List Int) : checkS l = 6 ∨ checkS l = 7 ∨ checkS l = 0 := by unfold checkS; split; simp; split <;> simp

theorem checkS_ok {l : List Int} (h : checkS l = 0) : ∀ x ∈ l, 0 ≤ x ∧ x ≤ 65536 := by
  unfold checkS at h
  split at h
  · simp at h
  split at h
  · simp at h
  rename_i h1 h2
  intro x hx
  have a := List.any_eq_false.1 (by simpa using h1) x hx
  have b := List.any_eq_false.1 (by simpa using h2) x hx
  simp [neg, big] at a b
  exact ⟨by omega, by omega⟩

/-- numbers combined one after the other, as long as a function permits it -/
def foldS (f : Int → Int → Int × Bool) : List Int → Int → Int × Bool
  | [], acc => (acc, true)
  | x :: l, acc => if (f acc x).2 = true then foldS f l (f acc x).1 else ((f acc x).1, false)

theorem foldS_yes {f : Int → Int → Int × Bool} {xs : List Int} {k : Nat} {acc : Int} (hk : k < xs.length) (h : (f acc (nth xs k)).2 = true) :
    foldS f (xs.drop k) acc = foldS f (xs.drop (k + 1)) (f acc (nth xs k)).1 := by
  rw [drop_nth hk, foldS, if_pos h]
theorem foldS_no {f : Int → Int → Int × Bool} {xs : List Int} {k : Nat} {acc : Int} (hk : k < xs.length) (h : (f acc (nth xs k)).2 = false) :
    foldS f (xs.drop k) acc = ((f acc (nth xs k)).1, false) := by
  rw [drop_nth hk, foldS, if_neg (by simp [h])]

def mulF (a b : Int) : Int × Bool := mulS a b 65536
def addF (a b : Int) : Int × Bool := (a + b, decide (a + b ≤ 65536))
/-- what 'combined' returns -/
def combS (f : Int → Int → Int × Bool) (first : Int) (l : List Int) : Int × Int :=
  if checkS l = 0 then (if (foldS f l first).2 = true then ((foldS f l first).1, 0) else (0, 7)) else (0, checkS l)

def productS (l : List Int) : Int × Int := if checkS l = 0 ∧ l.any (fun x => 0 == x) = true then (0, 0) else combS mulF 1 l
def sumS (l : List Int) : Int × Int := combS addF 0 l

/-- the product, or none if it passes the limit on the way -/
def prodL : List Int → Int → Option Int
  | [], acc => some acc
  | x :: l, acc => if 65536 < acc * x then none else prodL l (acc * x)
def sumL : List Int → Int → Option Int
  | [], acc => some acc
  | x :: l, acc => if 65536 < acc + x then none else sumL l (acc + x)

theorem mulF_pos {a b : Int} (ha : 0 < a) (ha' : a ≤ 65536) (hb : 0 < b) (hb' : b ≤ 65536) : mulF a b = if 65536 < a * b then (0, false) else (a * b, true) := by
  unfold mulF mulS
  by_cases h : 65536 / b < a
  · have : ¬ a * b ≤ 65536 := fun h2 => by
      have := (Int.le_ediv_iff_mul_le hb).2 h2
      omega
    rw [if_pos (by omega), if_pos (by omega)]
  · have := mul_le hb (Int.not_lt.1 h)
    rw [if_neg (by omega), if_neg (by omega)]

theorem foldS_mul (l : List Int) : ∀ acc : Int, 0 < acc → acc ≤ 65536 → (∀ x ∈ l, 0 < x ∧ x ≤ 65536) →
    foldS mulF l acc = match prodL l acc with | some n => (n, true) | none => (0, false) := by
  induction l with
  | nil => intro acc _ _ _; rfl
  | cons x t ih =>
    intro acc h1 h2 hx
    obtain ⟨hx1, hx2⟩ := hx x (by simp)
    have hm := mulF_pos h1 h2 hx1 hx2
    by_cases h : 65536 < acc * x
    · rw [if_pos h] at hm
      simp [foldS, prodL, hm, h]
    · rw [if_neg h] at hm
      have hp : 0 < acc * x := Int.mul_pos h1 hx1
      simp only [foldS, prodL, hm, h, if_true, if_false]
      exact ih _ hp (by omega) fun y hy => hx y (by simp [hy])

theorem foldS_add (l : List Int) : ∀ acc : Int, foldS addF l acc = match sumL l acc with | some n => (n, true) | none => ((foldS addF l acc).1, false) := by
  induction l with
  | nil => intro acc; rfl
  | cons x t ih =>
    intro acc
    by_cases h : 65536 < acc + x
    · simp [foldS, sumL, addF, h, Int.not_le.2 h]
    · simp only [foldS, sumL, addF, h, decide_eq_true (Int.not_lt.1 h), if_true, if_false]
      exact ih _

theorem prodL_bd (l : List Int) : ∀ acc n : Int, 0 < acc → acc ≤ 65536 → (∀ x ∈ l, 0 < x ∧ x ≤ 65536) → prodL l acc = some n → 0 < n ∧ n ≤ 65536 := by
  induction l with
  | nil => intro acc n h1 h2 _ h; simp [prodL] at h; omega
  | cons x t ih =>
    intro acc n h1 h2 hx h
    obtain ⟨hx1, hx2⟩ := hx x (by simp)
    by_cases hb : 65536 < acc * x
    · simp [prodL, hb] at h
    · simp only [prodL, hb, if_false] at h
      exact ih _ n (Int.mul_pos h1 hx1) (by omega) (fun y hy => hx y (by simp [hy])) h

theorem sumL_bd (l : List Int) : ∀ acc n : Int, 0 ≤ acc → acc ≤ 65536 → (∀ x ∈ l, 0 ≤ x ∧ x ≤ 65536) → sumL l acc = some n → 0 ≤ n ∧ n ≤ 65536 := by
  induction l with
  | nil => intro acc n h1 h2 _ h; simp [sumL] at h; omega
  | cons x t ih =>
    intro acc n h1 h2 hx h
    obtain ⟨hx1, hx2⟩ := hx x (by simp)
    by_cases hb : 65536 < acc + x
    · simp [sumL, hb] at h
    · simp only [sumL, hb, if_false] at h
      exact ih _ n (by omega) (by omega) (fun y hy => hx y (by simp [hy])) h

/-- the product in one line: what both sides compute -/
def prodR (l : List Int) : Int × Int :=
  if l.any neg then (0, 6) else if l.any big then (0, 7) else if l.any (fun x => 0 == x) then (0, 0) else match prodL l 1 with | some n => (n, 0) | none => (0, 7)
def sumR (l : List Int) : Int × Int :=
  if l.any neg then (0, 6) else if l.any big then (0, 7) else match sumL l 0 with | some n => (n, 0) | none => (0, 7)

theorem checkS_zero {l : List Int} (h1 : l.any neg = false) (h2 : l.any big = false) : checkS l = 0 := by simp [checkS, h1, h2]

theorem pos_of {l : List Int} (h1 : l.any neg = false) (h2 : l.any big = false) (h3 : (l.any fun x => 0 == x) = false) : ∀ x ∈ l, 0 < x ∧ x ≤ 65536 := by
  intro x hx
  have a := checkS_ok (checkS_zero h1 h2) x hx
  have b := List.any_eq_false.1 h3 x hx
  have : ¬ (0 = x) := by simpa using b
  exact ⟨by omega, a.2⟩

theorem productS_eq (l : List Int) : productS l = prodR l := by
  unfold productS prodR combS
  cases h1 : l.any neg with
  | true => simp [checkS, h1]
  | false =>
    cases h2 : l.any big with
    | true => simp [checkS, h1, h2]
    | false =>
      have hz := checkS_zero h1 h2
      cases h3 : l.any (fun x => 0 == x) with
      | true => simp [hz]
      | false =>
        have hp := pos_of h1 h2 h3
        have hf := foldS_mul l 1 (by omega) (by omega) hp
        cases h4 : prodL l 1 with
        | none => rw [h4] at hf; simp [hz, hf]
        | some n => rw [h4] at hf; simp [hz, hf]

theorem sumS_eq (l : List Int) : sumS l = sumR l := by
  unfold sumS sumR combS
  cases h1 : l.any neg with
  | true => simp [checkS, h1]
  | false =>
    cases h2 : l.any big with
    | true => simp [checkS, h1, h2]
    | false =>
      have hz := checkS_zero h1 h2
      have hf := foldS_add l 0
      cases h4 : sumL l 0 with
      | none => rw [h4] at hf; rw [hf]; simp [hz]
      | some n => rw [h4] at hf; rw [hf]; simp [hz]

def dimS (v : Int) : Int × Int := if v < 0 then (0, 6) else if 65536 < v then (0, 7) else (v, 0)
def magS (v : Int) : Int × Int := if 65536 < v ∨ v < -65536 then (0, 7) else if v < 0 then (-v, 0) else (v, 0)
def modS (k n : Int) : Int := if n ≤ 0 then 0 else k % n
end Go.Proofs.Ythkfjiioekhkhaa
