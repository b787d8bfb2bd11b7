/- Plain functions on shapes, indices and offsets, and their laws: products, strides, offsets by Horner's scheme and by strides, indices of offsets, the lexicographic order. No program in sight. -/
import Derived.Test.YthkfjiioekhkhaaSizePlain
namespace Go.Proofs.Ythkfjiioekhkhaa
open Go.RowKit

def prod (l : List Int) : Int := l.foldr (fun x y => x * y) 1
theorem prod_cons (x : Int) (l : List Int) : prod (x :: l) = x * prod l := rfl
theorem prod_nil : prod [] = 1 := rfl
theorem prod_append (a b : List Int) : prod (a ++ b) = prod a * prod b := by
  induction a with
  | nil => simp [prod_nil]
  | cons x a ih => rw [List.cons_append, prod_cons, prod_cons, ih, Int.mul_assoc]
theorem prod_pos {l : List Int} (h : ∀ x ∈ l, 0 < x) : 0 < prod l := by
  induction l with
  | nil => simp [prod_nil]
  | cons x l ih =>
    rw [prod_cons]
    exact Int.mul_pos (h x (by simp)) (ih fun y hy => h y (by simp [hy]))

theorem le_mul_pos {a b : Int} (ha : 0 ≤ a) (hb : 0 < b) : a ≤ a * b := by
  have : a * 1 ≤ a * b := Int.mul_le_mul_of_nonneg_left (by omega) ha
  omega

/-- the suffix products of positive numbers are at most the product -/
theorem prod_drop_le {l : List Int} (h : ∀ x ∈ l, 0 < x) (k : Nat) : prod (l.drop k) ≤ prod l := by
  have e : prod l = prod (l.take k) * prod (l.drop k) := by rw [← prod_append, List.take_append_drop]
  have h1 : 0 < prod (l.take k) := prod_pos fun x hx => h x (List.mem_of_mem_take hx)
  have h2 : 0 < prod (l.drop k) := prod_pos fun x hx => h x (List.mem_of_mem_drop hx)
  rw [e, Int.mul_comm]
  exact le_mul_pos (by omega) h1
theorem prod_take_le {l : List Int} (h : ∀ x ∈ l, 0 < x) (k : Nat) : prod (l.take k) ≤ prod l := by
  have e : prod l = prod (l.take k) * prod (l.drop k) := by rw [← prod_append, List.take_append_drop]
  have h1 : 0 < prod (l.take k) := prod_pos fun x hx => h x (List.mem_of_mem_take hx)
  have h2 : 0 < prod (l.drop k) := prod_pos fun x hx => h x (List.mem_of_mem_drop hx)
  rw [e]
  exact le_mul_pos (by omega) h2

theorem prodL_prod (l : List Int) : ∀ acc n : Int, prodL l acc = some n → n = acc * prod l := by
  induction l with
  | nil => intro acc n h; simp [prodL] at h; simp [prod_nil, h]
  | cons x t ih =>
    intro acc n h
    unfold prodL at h
    split at h
    · simp at h
    · rw [ih _ _ h, prod_cons, Int.mul_assoc]

def strs : List Int → List Int
  | [] => []
  | _ :: s => prod s :: strs s
theorem strs_len (s : List Int) : (strs s).length = s.length := by induction s with | nil => rfl | cons d s ih => simp [strs, ih]
theorem strs_nth (s : List Int) : ∀ k, k < s.length → nth (strs s) k = prod (s.drop (k + 1)) := by
  induction s with
  | nil => intro k h; simp at h
  | cons d s ih =>
    intro k h
    cases k with
    | zero => simp [strs, nth]
    | succ k =>
      have := ih k (by simpa using h)
      simpa [strs, nth] using this

theorem nth_zero (x : Int) (l : List Int) : nth (x :: l) 0 = x := rfl
theorem nth_succ (x : Int) (l : List Int) (k : Nat) : nth (x :: l) (k + 1) = nth l k := rfl
theorem nth_append {a b : List Int} {k : Nat} (h : k < a.length) : nth (a ++ b) k = nth a k := by
  unfold nth
  simp [List.getD_eq_getElem?_getD, List.getElem?_append_left h]
theorem nth_append_right {a b : List Int} {k : Nat} (h : a.length ≤ k) : nth (a ++ b) k = nth b (k - a.length) := by
  unfold nth
  simp [List.getD_eq_getElem?_getD, List.getElem?_append_right h]
theorem nth_drop (l : List Int) (j k : Nat) : nth (l.drop j) k = nth l (j + k) := by
  unfold nth
  simp [List.getD_eq_getElem?_getD]
theorem nth_take {l : List Int} {j k : Nat} (h : k < j) : nth (l.take j) k = nth l k := by
  unfold nth
  simp [List.getD_eq_getElem?_getD, h]
theorem ext_nth {a b : List Int} (hl : a.length = b.length) (h : ∀ k, k < a.length → nth a k = nth b k) : a = b := by
  apply List.ext_getElem hl
  intro k h1 h2
  have := h k h1
  have e1 := nth_get? h1
  have e2 := nth_get? h2
  rw [List.getElem?_eq_getElem h1] at e1
  rw [List.getElem?_eq_getElem h2] at e2
  rw [Option.some.inj e1, Option.some.inj e2, this]

/-- an index of a shape -/
def Valid (s ix : List Int) : Prop := s.length = ix.length ∧ ∀ k, k < s.length → 0 ≤ nth ix k ∧ nth ix k < nth s k
instance (s ix : List Int) : Decidable (Valid s ix) := inferInstanceAs (Decidable (_ ∧ _))
theorem valid_nil : Valid [] [] := ⟨rfl, fun k h => by simp at h⟩
theorem valid_cons {d i : Int} {s ix : List Int} : Valid (d :: s) (i :: ix) ↔ (0 ≤ i ∧ i < d) ∧ Valid s ix := by
  constructor
  · rintro ⟨h1, h2⟩
    refine ⟨h2 0 (by simp), by simpa using h1, fun k hk => ?_⟩
    have := h2 (k + 1) (by simp; omega)
    rwa [nth_succ, nth_succ] at this
  · rintro ⟨h0, h1, h2⟩
    refine ⟨by simp [h1], fun k hk => ?_⟩
    cases k with
    | zero => exact h0
    | succ k => rw [nth_succ, nth_succ]; exact h2 k (by simpa using hk)

theorem Valid.pos {s ix : List Int} (h : Valid s ix) : ∀ x ∈ s, 0 < x := by
  intro x hx
  obtain ⟨k, hk, rfl⟩ := List.getElem_of_mem hx
  have := h.2 k hk
  have e := nth_get? hk
  rw [List.getElem?_eq_getElem hk] at e
  rw [Option.some.inj e]
  omega

def dotS : List Int → List Int → Int
  | x :: a, y :: b => x * y + dotS a b
  | _, _ => 0
/-- the sum of products, as Go reckons it -/
def dotW : List Int → List Int → Int → Int
  | x :: a, y :: b, q => dotW a b (wrap64 (q + wrap64 (x * y)))
  | _, _, q => q
theorem dotW_step {a b : List Int} {k : Nat} {q : Int} (h1 : k < a.length) (h2 : k < b.length) :
    dotW (a.drop k) (b.drop k) q = dotW (a.drop (k + 1)) (b.drop (k + 1)) (wrap64 (q + wrap64 (nth a k * nth b k))) := by
  rw [drop_nth h1, drop_nth h2, dotW]
theorem dotW_end {a b : List Int} {k : Nat} {q : Int} (h : ¬ (k < a.length ∧ k < b.length)) : dotW (a.drop k) (b.drop k) q = q := by
  by_cases h1 : k < a.length
  · have e : b.drop k = [] := List.drop_eq_nil_of_le (by omega)
    rw [e]
    cases a.drop k <;> rfl
  · have e : a.drop k = [] := List.drop_eq_nil_of_le (by omega)
    rw [e]
    rfl

theorem dotW_comm (a : List Int) : ∀ (b : List Int) (q : Int), dotW a b q = dotW b a q := by
  induction a with
  | nil => intro b q; cases b <;> rfl
  | cons x a ih =>
    intro b q
    cases b with
    | nil => rfl
    | cons y b => simp only [dotW, ih, Int.mul_comm]

/-- without overflow the sum of products is the mathematical one -/
theorem dotW_eq (B : Int) (hB : 0 ≤ B) (a : List Int) : ∀ (b : List Int) (q : Int), (∀ k, k < a.length → k < b.length → -B ≤ nth a k * nth b k ∧ nth a k * nth b k ≤ B) →
    -4611686018427387904 ≤ q - B * a.length → q + B * a.length ≤ 4611686018427387904 → dotW a b q = q + dotS a b := by
  induction a with
  | nil => intro b q _ _ _; cases b <;> simp [dotW, dotS]
  | cons x a ih =>
    intro b q h h1 h2
    cases b with
    | nil => simp [dotW, dotS]
    | cons y b =>
      have h0 := h 0 (by simp) (by simp)
      rw [nth_zero, nth_zero] at h0
      have hm : 0 ≤ B * (a.length : Int) := Int.mul_nonneg hB (by omega)
      have e : B * ((x :: a).length : Int) = B * (a.length : Int) + B := by
        rw [List.length_cons, Int.natCast_add, Int.mul_add]
        simp
      rw [e] at h1 h2
      simp only [dotW, dotS]
      rw [IntWalk.wrap64_in (x * y) ⟨by omega, by omega⟩, IntWalk.wrap64_in (q + x * y) ⟨by omega, by omega⟩]
      rw [ih b (q + x * y) (fun k hk hk' => by have := h (k + 1) (by simp; omega) (by simp; omega); rwa [nth_succ, nth_succ] at this) (by omega) (by omega)]
      omega

/-- the offset, by Horner's scheme -/
def horn : List Int → List Int → Int → Int
  | d :: s, i :: ix, q => horn s ix (q * d + i)
  | _, _, q => q
theorem horn_step {s ix : List Int} {k : Nat} {q : Int} (h1 : k < s.length) (h2 : k < ix.length) :
    horn (s.drop k) (ix.drop k) q = horn (s.drop (k + 1)) (ix.drop (k + 1)) (q * nth s k + nth ix k) := by
  rw [drop_nth h1, drop_nth h2, horn]
theorem horn_eq (s : List Int) : ∀ (ix : List Int) (q : Int), s.length = ix.length → horn s ix q = q * prod s + dotS (strs s) ix := by
  induction s with
  | nil => intro ix q h; cases ix <;> simp_all [horn, prod_nil, strs, dotS]
  | cons d s ih =>
    intro ix q h
    cases ix with
    | nil => simp at h
    | cons i ix =>
      simp only [horn, strs, dotS, prod_cons]
      rw [ih ix _ (by simpa using h), Int.add_mul, Int.mul_assoc, Int.mul_comm i, Int.add_assoc]

theorem off_bd (s : List Int) : ∀ ix : List Int, Valid s ix → 0 ≤ dotS (strs s) ix ∧ dotS (strs s) ix < prod s := by
  induction s with
  | nil => intro ix h; cases ix <;> simp_all [strs, dotS, prod_nil]
  | cons d s ih =>
    intro ix h
    cases ix with
    | nil => have := h.1; simp at this
    | cons i ix =>
      have hp := prod_pos h.pos
      obtain ⟨⟨h1, h2⟩, h3⟩ := valid_cons.1 h
      have hps := prod_pos h3.pos
      obtain ⟨h4, h5⟩ := ih ix h3
      simp only [strs, dotS, prod_cons]
      have a1 : 0 ≤ prod s * i := Int.mul_nonneg (by omega) h1
      have a2 : prod s * (i + 1) ≤ prod s * d := Int.mul_le_mul_of_nonneg_left (by omega) (by omega)
      rw [Int.mul_add, Int.mul_one] at a2
      rw [Int.mul_comm d]
      omega

/-- the index with an offset -/
def unoff : List Int → Int → List Int
  | [], _ => []
  | _ :: s, n => n / prod s :: unoff s (n % prod s)
theorem unoff_len (s : List Int) : ∀ n, (unoff s n).length = s.length := by induction s with | nil => intro n; rfl | cons d s ih => intro n; simp [unoff, ih]

theorem unoff_off (s : List Int) (hp : ∀ x ∈ s, 0 < x) : ∀ n : Int, 0 ≤ n → n < prod s → Valid s (unoff s n) ∧ dotS (strs s) (unoff s n) = n := by
  induction s with
  | nil => intro n h1 h2; rw [prod_nil] at h2; exact ⟨valid_nil, by simp [strs, unoff, dotS]; omega⟩
  | cons d s ih =>
    intro n h1 h2
    have hps := prod_pos (l := s) fun x hx => hp x (by simp [hx])
    have hd := hp d (by simp)
    have m1 := Int.emod_nonneg n (show prod s ≠ 0 by omega)
    have m2 := Int.emod_lt_of_pos n hps
    obtain ⟨v, o⟩ := ih (fun x hx => hp x (by simp [hx])) (n % prod s) m1 m2
    rw [prod_cons] at h2
    refine ⟨valid_cons.2 ⟨⟨Int.ediv_nonneg h1 (by omega), Int.ediv_lt_of_lt_mul hps h2⟩, v⟩, ?_⟩
    simp only [strs, unoff, dotS]
    rw [o]
    exact Int.mul_ediv_add_emod n _

theorem off_unoff (s : List Int) : ∀ ix : List Int, Valid s ix → unoff s (dotS (strs s) ix) = ix := by
  induction s with
  | nil => intro ix h; cases ix <;> simp_all [unoff, Valid]
  | cons d s ih =>
    intro ix h
    cases ix with
    | nil => have := h.1; simp at this
    | cons i ix =>
      obtain ⟨⟨h1, h2⟩, h3⟩ := valid_cons.1 h
      have hps := prod_pos h3.pos
      obtain ⟨h4, h5⟩ := off_bd s ix h3
      simp only [strs, dotS, unoff]
      rw [Int.add_comm, Int.add_mul_ediv_left _ _ (by omega), Int.ediv_eq_zero_of_lt h4 h5, Int.add_mul_emod_self_left, Int.emod_eq_of_lt h4 h5, ih ix h3]
      simp

theorem off_inj {s a b : List Int} (ha : Valid s a) (hb : Valid s b) (h : dotS (strs s) a = dotS (strs s) b) : a = b := by
  rw [← off_unoff s a ha, ← off_unoff s b hb, h]

/-- the lexicographic order -/
def lexS : List Int → List Int → Bool
  | x :: a, y :: b => decide (x < y) || (x == y && lexS a b)
  | _, _ => false
theorem lex_off (s : List Int) : ∀ a b : List Int, Valid s a → Valid s b → lexS a b = decide (dotS (strs s) a < dotS (strs s) b) := by
  induction s with
  | nil =>
    intro a b ha hb
    obtain rfl : a = [] := List.eq_nil_of_length_eq_zero (by have := ha.1; simpa using this.symm)
    simp [lexS, strs, dotS]
  | cons d s ih =>
    intro a b ha hb
    cases a with
    | nil => have := ha.1; simp at this
    | cons x a =>
      cases b with
      | nil => have := hb.1; simp at this
      | cons y b =>
        obtain ⟨⟨x1, x2⟩, ha'⟩ := valid_cons.1 ha
        obtain ⟨⟨y1, y2⟩, hb'⟩ := valid_cons.1 hb
        have hps := prod_pos ha'.pos
        have o1 := off_bd s a ha'
        have o2 := off_bd s b hb'
        simp only [lexS, strs, dotS]
        rw [ih a b ha' hb']
        rcases Int.lt_trichotomy x y with h | h | h
        · have : prod s * (x + 1) ≤ prod s * y := Int.mul_le_mul_of_nonneg_left (by omega) (by omega)
          rw [Int.mul_add, Int.mul_one] at this
          rw [decide_eq_true h, decide_eq_true (show prod s * x + dotS (strs s) a < prod s * y + dotS (strs s) b by omega)]
          simp
        · subst h
          simp
        · have : prod s * (y + 1) ≤ prod s * x := Int.mul_le_mul_of_nonneg_left (by omega) (by omega)
          rw [Int.mul_add, Int.mul_one] at this
          rw [decide_eq_false (show ¬ x < y by omega), decide_eq_false (show ¬ prod s * x + dotS (strs s) a < prod s * y + dotS (strs s) b by omega)]
          simp
          omega
end Go.Proofs.Ythkfjiioekhkhaa
