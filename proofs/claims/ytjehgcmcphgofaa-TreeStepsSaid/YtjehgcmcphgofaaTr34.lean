/- How many numbers a tree of few nodes has. No condition beyond what each says. -/
import Derived.Test.YtjehgcmcphgofaaTr33
namespace Go.Proofs.Ytjehgcmcphgofaa
open Go.RowKit Go.Shelf
set_option linter.unusedVariables false
set_option linter.unusedSimpArgs false

/-- no node has more numbers than a slice holds -/
def NumsIn : TV → Prop
  | .nil => True
  | .mk d kids => d.nums.length ≤ 140737488355328 ∧ ∀ i, i < d.n → NumsIn (kids i)
theorem sumTo_bd {f g : Nat → Nat} {c : Nat} : ∀ n : Nat, (∀ i, i < n → f i ≤ c * g i) → sumTo n f ≤ c * sumTo n g
  | 0, _ => Nat.zero_le _
  | n + 1, h => by
    have h1 := sumTo_bd (f := f) (g := g) (c := c) n fun i hi => h i (by omega)
    have h2 := h n (by omega)
    simp only [sumTo]
    rw [Nat.mul_add]
    omega
theorem nums_bd : ∀ {t : TV}, NumsIn t → numsT t ≤ 140737488355328 * sizeT t
  | .nil, _ => Nat.zero_le _
  | .mk d kids, ⟨h1, h2⟩ => by
    have := sumTo_bd (f := fun i => numsT (kids i)) (g := fun i => sizeT (kids i)) (c := 140737488355328) d.n fun i hi => nums_bd (h2 i hi)
    simp only [numsT, sizeT]
    omega
theorem accW_is {f : Nat → Int} {g : Nat → Nat} {a : Nat} : ∀ n : Nat, (∀ i, i < n → f i = (g i : Int)) → a + sumTo n g ≤ 9223372036854775807 → accW n f (a : Int) = ((a + sumTo n g : Nat) : Int)
  | 0, _, _ => rfl
  | n + 1, h, hs => by
    simp only [sumTo] at hs ⊢
    simp only [accW]
    rw [accW_is (f := f) (g := g) (a := a) n (fun i hi => h i (by omega)) (by omega), h n (by omega), wrap64_id (by omega) (by omega)]
    omega
theorem nums_is : ∀ {t : TV}, NumsIn t → sizeT t ≤ 60000 → numsW t = (numsT t : Int)
  | .nil, _, _ => rfl
  | .mk d kids, h, hs => by
    have hb := nums_bd h
    simp only [numsT] at hb
    simp only [numsW, numsT]
    exact accW_is d.n (fun i hi => nums_is (h.2 i hi) (by have := sizeT_kid (kids := kids) hi; omega)) (by omega)
theorem few_size {t : TV} {m : Int} (h : fewT t m = true) : (sizeT t : Int) ≤ m := by
  unfold fewT at h
  simp only [Bool.and_eq_true, decide_eq_true_eq] at h
  exact left_size h.1
theorem few_nums {t : TV} {m : Int} (h : fewT t m = true) (hm : m ≤ 60000) (hN : NumsIn t) : (numsT t : Int) ≤ 10 * m := by
  have hs := few_size h
  unfold fewT at h
  simp only [Bool.and_eq_true, decide_eq_true_eq] at h
  have := nums_is hN (by omega)
  omega
end Go.Proofs.Ytjehgcmcphgofaa
