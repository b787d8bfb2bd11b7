/- The iterator of odometer.Between: what it hands to each round. No condition beyond what each says. -/
import Derived.Test.YthkfjiioekhkhaaOdoStep
import Derived.RangeFuncNested
import Derived.RangeFuncBound
import Derived.RangeFuncCalls
import Derived.RangeFuncLeaves
import Derived.Shelf.Abstract
import Derived.Shelf.RegionOpen
import Derived.WalkKit
import Derived.OwnWalkIn
import Derived.TacticsInMore
import Derived.LoopNIn
import Derived.LoopIn
namespace Go.Proofs.Ythkfjiioekhkhaa
open Go.RowKit Go.Shelf
set_option linter.unusedVariables false
set_option linter.unusedSimpArgs false
attribute [local go_sem] Oper.semAt_some

@[go_sem] theorem callVal_yield (a : Act) (dst : Option Tmp) (t : Tmp) (xs : Array Operand) (ats : Array TypeId) (ty : TypeId) (pos : String) (after : Array Edge) (guard : Option (Nat × Bool)) (l : Nat) (h : a.eval (.tmp t) = .func (.yield l) #[] #[]) :
    callVal a dst t xs ats ty pos after guard (.func (.yield l) #[] #[]) = Instr.yield l (xs.map a.eval) := by
  unfold callVal
  simp only
  unfold execOp
  simp only [resolve, invoke, h]
  simp [Deferred.ofValue]
/-- what a round leaves as it lay: the blocks from n1 to n2, and the block b -/
def KpR (n1 n2 : Nat) (b : Option Nat) (A B : World) : Prop := A.heap.size ≤ B.heap.size ∧ ∀ k, (n1 ≤ k ∧ k < n2) ∨ b = some k → k < A.heap.size → B.heap[k]? = A.heap[k]?
theorem KpR.trans {n1 n2 : Nat} {b : Option Nat} {A B C : World} (h : KpR n1 n2 b A B) (k : KpR n1 n2 b B C) : KpR n1 n2 b A C :=
  ⟨Nat.le_trans h.1 k.1, fun j hj hlt => (k.2 j hj (Nat.lt_of_lt_of_le hlt h.1)).trans (h.2 j hj hlt)⟩
theorem KpR.of {n1 n2 : Nat} {b row : Option Nat} {A B : World} (h : A.grownBy B row) (hr : ∀ r, row = some r → ¬ (n1 ≤ r ∧ r < n2) ∧ b ≠ some r) : KpR n1 n2 b A B :=
  ⟨h.size, fun k hk hlt => h.block k hlt fun e => by
    obtain ⟨h1, h2⟩ := hr k e.symm
    rcases hk with hk | hk
    · exact h1 hk
    · exact h2 hk⟩
/-- a row in the blocks from n1 to n2 -/
def SegRow (n1 n2 : Nat) (W : World) (p : Option Addr) (xs : List Int) : Prop := xs = [] ∨ ∃ g, p = some ⟨g, 0, none⟩ ∧ n1 ≤ g ∧ g < n2 ∧ Own W g 3 (xs.map (.int .i64))
/-- the two lists of a range, in the blocks from n1 to n2 -/
structure RangeAt (n1 n2 B1 B2 : Nat) (p1 p2 : Option Addr) (c1 c2 : Nat) (lo hi : List Int) (W : World) : Prop where
  le : n2 ≤ W.heap.size
  in1 : n1 ≤ B1 ∧ B1 < n2
  in2 : n1 ≤ B2 ∧ B2 < n2
  x1 : W.cell? ⟨B1, 0, none⟩ = some (.slice p1 lo.length c1)
  x2 : W.cell? ⟨B2, 0, none⟩ = some (.slice p2 hi.length c2)
  r1 : SegRow n1 n2 W p1 lo
  r2 : SegRow n1 n2 W p2 hi
theorem SegRow.keep {n1 n2 : Nat} {W Z : World} {p : Option Addr} {xs : List Int} (h : SegRow n1 n2 W p xs) (hk : ∀ k, n1 ≤ k → k < n2 → Z.heap[k]? = W.heap[k]?) : SegRow n1 n2 Z p xs := by
  rcases h with h | ⟨g, hp, h1, h2, r, ho⟩
  · exact .inl h
  · exact .inr ⟨g, hp, h1, h2, r, (hk g h1 h2).trans ho⟩
theorem cell_same {W Z : World} {a : Addr} (h : Z.heap[a.block]? = W.heap[a.block]?) : Z.cell? a = W.cell? a := by simp [World.cell?, h]
theorem RangeAt.keep {n1 n2 B1 B2 : Nat} {p1 p2 : Option Addr} {c1 c2 : Nat} {lo hi : List Int} {W Z : World} (h : RangeAt n1 n2 B1 B2 p1 p2 c1 c2 lo hi W) (hs : W.heap.size ≤ Z.heap.size) (hk : ∀ k, n1 ≤ k → k < n2 → Z.heap[k]? = W.heap[k]?) :
    RangeAt n1 n2 B1 B2 p1 p2 c1 c2 lo hi Z :=
  ⟨Nat.le_trans h.le hs, h.in1, h.in2, (cell_same (a := ⟨B1, 0, none⟩) (hk B1 h.in1.1 h.in1.2)).trans h.x1, (cell_same (a := ⟨B2, 0, none⟩) (hk B2 h.in2.1 h.in2.2)).trans h.x2, h.r1.keep hk, h.r2.keep hk⟩
theorem RangeAt.kp {n1 n2 B1 B2 : Nat} {p1 p2 : Option Addr} {c1 c2 : Nat} {lo hi : List Int} {b : Option Nat} {W Z : World} (h : RangeAt n1 n2 B1 B2 p1 p2 c1 c2 lo hi W) (hk : KpR n1 n2 b W Z) : RangeAt n1 n2 B1 B2 p1 p2 c1 c2 lo hi Z :=
  h.keep hk.1 fun k h1 h2 => hk.2 k (.inl ⟨h1, h2⟩) (Nat.lt_of_lt_of_le h2 h.le)
theorem RangeAt.grown {n1 n2 B1 B2 : Nat} {p1 p2 : Option Addr} {c1 c2 : Nat} {lo hi : List Int} {r : Option Nat} {W Z : World} (h : RangeAt n1 n2 B1 B2 p1 p2 c1 c2 lo hi W) (hg : W.grownBy Z r) (hr : ∀ g, r = some g → n2 ≤ g) : RangeAt n1 n2 B1 B2 p1 p2 c1 c2 lo hi Z :=
  h.keep hg.size fun k h1 h2 => hg.block k (Nat.lt_of_lt_of_le h2 h.le) fun e => by have := hr k e.symm; omega
theorem SegRow.ints {n1 n2 : Nat} {W : World} {p : Option Addr} {xs : List Int} (h : SegRow n1 n2 W p xs) (h64 : ∀ x ∈ xs, I64 x) (hl : xs.length ≤ 1000000) : Ints W p xs := by
  rcases h with rfl | ⟨g, hp, h1, h2, ho⟩
  · exact ⟨.inl rfl, by simp, by simp⟩
  · exact New.ints (B := 0) (.inr ⟨g, hp, Nat.zero_le _, ho⟩) h64 (by omega)
/-- the iterator's own index -/
def AtR (b : Option Nat) (W : World) (p : Option Addr) (a : List Int) : Prop := (a = [] ∧ b = none) ∨ ∃ g, b = some g ∧ p = some ⟨g, 0, none⟩ ∧ Own W g 3 (a.map (.int .i64))
theorem AtR.keep {b : Option Nat} {W Z : World} {p : Option Addr} {a : List Int} (h : AtR b W p a) (hk : ∀ k, b = some k → k < W.heap.size → Z.heap[k]? = W.heap[k]?) : AtR b Z p a := by
  rcases h with h | ⟨g, hb, hp, ho⟩
  · exact .inl h
  · obtain ⟨r, h'⟩ := ho
    exact .inr ⟨g, hb, hp, r, (hk g hb (Array.getElem?_eq_some_iff.1 h').1).trans h'⟩
theorem AtR.ints {b : Option Nat} {W : World} {p : Option Addr} {xs : List Int} (h : AtR b W p xs) (h64 : ∀ x ∈ xs, I64 x) (hl : xs.length ≤ 1000000) : Ints W p xs := by
  rcases h with ⟨rfl, -⟩ | ⟨g, -, hp, ho⟩
  · exact ⟨.inl rfl, by simp, by simp⟩
  · exact New.ints (B := 0) (.inr ⟨g, hp, Nat.zero_le _, ho⟩) h64 (by omega)
theorem grown_of_below {w z : World} (h : Below w.heap.size w z) : w.grownBy z none := ⟨h.os, h.tape, h.output, h.size, fun k hk _ => h.block k hk⟩
theorem grown_up {w z : World} (h : w.grownBy z none) (r : Option Nat) : w.grownBy z r := ⟨h.os, h.tape, h.output, h.size, fun k hk _ => h.block k hk (by simp)⟩
theorem grown_trans {a b c : World} {r : Option Nat} (h : a.grownBy b r) (k : b.grownBy c r) : a.grownBy c r :=
  ⟨k.os.trans h.os, k.tape.trans h.tape, k.output.trans h.output, Nat.le_trans h.size k.size, fun j hj hne => (k.block j (Nat.lt_of_lt_of_le hj h.size) hne).trans (h.block j hj hne)⟩

set_option maxHeartbeats 2000000 in
theorem Step_nil (p q r : Option Addr) (c f d : Nat) (w : World) :
    Calls Try.prog 41 #[.slice p 0 c, .slice q 0 f, .slice r 0 d] w fun e w' => e = .returned (.bool false) ∧ w = w' := by
  go_enter Try.func41, Try.ntmps41
  go_wp2_with fail
  go_loopw [7] (fun i wr => i = .int .i64 (-1) ∧ w = wr) (fun _ _ => 0)
  case atStart => exact ⟨rfl, rfl⟩
  case round =>
    obtain ⟨rfl, rfl⟩ := hrel
    go_wp2_with fail
    go_ret
    exact ⟨rfl, rfl⟩
theorem Step_at {n1 n2 B1 B2 : Nat} {p1 p2 : Option Addr} {c1 c2 : Nat} {lo hi : List Int} {w : World} (hR : RangeAt n1 n2 B1 B2 p1 p2 c1 c2 lo hi w) (b : Option Nat) (pa : Option Addr) (d : Nat) (a : List Int) (J : Nat)
    (hl : lo.length = hi.length) (ha : a.length = lo.length) (hn : lo.length ≤ 1000000) (hJ : StopAt lo hi a J) (h64 : ∀ x ∈ lo, I64 x) (h64' : ∀ x ∈ hi, I64 x) (hlt : ∀ i, i < lo.length → I64 (nth a i) ∧ nth a i < nth hi i) (hb : ∀ g, b = some g → n2 ≤ g) (hA : AtR b w pa a) (R : Bool) (X : List Int) (n m : Nat) (hRR : decide (0 < J) = R) (hX : stepX lo a J = X) (hn' : lo.length = n) (hm : hi.length = m) :
    Calls Try.prog 41 #[.slice p1 n c1, .slice p2 m c2, .slice pa n d] w fun e w' =>
      e = .returned (.bool R) ∧ w.grownBy w' b ∧ AtR b w' pa X := by
  subst hRR hX hn' hm
  rcases hA with ⟨rfl, rfl⟩ | ⟨g, rfl, rfl, ho⟩
  · have h0 : lo.length = 0 := by simpa using ha.symm
    have hJ0 : J = 0 := by have := hJ.le; omega
    have hlo : lo = [] := List.eq_nil_of_length_eq_zero h0
    subst hJ0 hlo
    have e1 : hi.length = 0 := hl.symm
    rw [e1]
    refine (Step_nil p1 p2 pa c1 c2 d w).mono fun e w' ⟨he, hw⟩ => ?_
    subst hw
    exact ⟨he, ⟨rfl, rfl, rfl, Nat.le_refl _, fun _ _ _ => rfl⟩, .inl ⟨by simp [stepX], rfl⟩⟩
  · rw [← hl]
    refine (Step_any p1 p2 c1 c2 d g lo hi a J hl ha hn hJ hlt w (fun z hz => ?_) (fun z hz => ?_) ho).mono fun e w' ⟨he, hw, ho'⟩ => ⟨he, hw, .inr ⟨g, rfl, rfl, ho'⟩⟩
    · exact (hR.grown hz hb).r1.ints h64 hn
    · exact (hR.grown hz hb).r2.ints h64' (by omega)
end Go.Proofs.Ythkfjiioekhkhaa
