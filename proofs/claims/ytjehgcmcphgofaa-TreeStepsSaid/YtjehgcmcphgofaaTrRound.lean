/- A region that draws its order, in a round of a loop over an iterator: the walk outside a fence serves. No condition. -/
import Derived.Test.YtjehgcmcphgofaaTr35
import Derived.RangeFuncNested
import Derived.OrdersIn
import Derived.OwnWalkIn
namespace Go.Proofs.Ytjehgcmcphgofaa
open Go.RowKit Go.Shelf
set_option linter.unusedVariables false
set_option linter.unusedSimpArgs false

/-- no operation is a 'defer' statement -/
def noDefer (ops : Array Oper) : Bool := ops.all fun o => match o.op with | .defer _ => false | _ => true
theorem noDefer_at {ops : Array Oper} (h : noDefer ops = true) {i : Nat} {o : Oper} (hi : ops[i]? = some o) : ∀ c, o.op ≠ .defer c := by
  intro c hc
  unfold noDefer at h
  rw [Array.all_eq_true] at h
  obtain ⟨hlt, he⟩ := Array.getElem?_eq_some_iff.1 hi
  have := h i hlt
  rw [he, hc] at this
  cases this
/-- the post at a normal end; nothing else happens -/
def OnlyNormal (Q : Exit → Act → World → Prop) : Exit → Act → World → Prop
  | .normal, a, w => Q .normal a w
  | _, _, _ => False
theorem OnlyNormal.normal {Q : Exit → Act → World → Prop} {a : Act} {w : World} (h : Q .normal a w) : OnlyNormal Q .normal a w := h
theorem OnlyNormal.imp {Q : Exit → Act → World → Prop} : ∀ (e : Exit) (a : Act) (w : World), NoPanic (OnlyNormal Q) e a w → Q e a w := fun e a w h => by
  cases e <;> first | exact h | exact (h : False).elim
theorem not_out {Q : Exit → Act → World → Prop} : ¬ LetsOut (NoPanic (OnlyNormal Q)) := fun ⟨_, _, h⟩ => h
theorem rowsIn_of {P : Program} {l n : Nat} {row : String} {args : Array Value} {w : World} {R : Value → World → Prop} (h : _root_.Go.Rows P row args w R) : RowsIn (Fence.wide.inRound l) n P row args w R :=
  fun c cs _ => let ⟨v, w', r, s⟩ := h c cs; ⟨v, w', r, (stepsIn_wide (P := P)).2 s⟩
theorem uponIn_of {P : Program} {l n : Nat} {o : Oper} {a : Act} {K : Act → World → Prop} {Q : Exit → Act → World → Prop} {r : Result Next} (h : o.upon P a K Q r) : o.uponIn (Fence.wide.inRound l) n P a K Q r := by
  cases r with
  | ok x w' =>
    cases x
    case enter f args => exact ⟨(fun hd => by cases hd), CallsIn.inRound l (callsIn_wide.2 h)⟩
    case row row args => exact ⟨(fun hd => by cases hd), rowsIn_of h⟩
    all_goals first | exact h | exact (h : False).elim
  | halt x w' =>
    cases x
    all_goals first | exact h | exact (h : False).elim
theorem wpIn_of {P : Program} {l n : Nat} {o : Oper} {a : Act} {w : World} {K : Act → World → Prop} {Q : Exit → Act → World → Prop} (hd : ∀ c, o.op ≠ .defer c) (h : o.wp P a w K Q) : o.wpIn (Fence.wide.inRound l) n P a w K Q := by
  refine ⟨fun _ _ => trivial, ?_⟩
  rw [show (Fence.wide.inRound l).round = some l from rfl, Oper.semAt_some l _ _ hd]
  exact uponIn_of h
theorem wpAnyIn_of {P : Program} {l n : Nat} {md : Region.Mode} {ops : Array Oper} {Q : Exit → Act → World → Prop} (hd : noDefer ops = true) (hQ : ¬ LetsOut Q) : ∀ (fuel : Nat) (listed : Array Bool) (a : Act) (w : World), wpAny P md ops Q fuel listed a w → wpAnyIn (Fence.wide.inRound l) n P md ops Q fuel listed a w
  | 0, _, _, _, h => h
  | fuel + 1, listed, a, w, h => by
    refine ⟨h.1, fun i hi => ?_⟩
    have hh := h.2 i hi
    unfold wpOp at hh
    unfold wpOpIn
    cases ho : ops[i]? with
    | none =>
      rw [ho] at hh
      exact wpAnyIn_of hd hQ fuel _ _ _ hh
    | some o =>
      rw [ho] at hh
      simp only at hh ⊢
      split
      · rename_i hw
        rw [if_pos hw] at hh
        rcases hh with hh | ⟨-, hh⟩
        · exact Oper.wpIn_mono (fun a w h => wpAnyIn_of hd hQ fuel _ a w h) (wpIn_of (noDefer_at hd ho) hh)
        · exact (hQ hh).elim
      · rename_i hw
        rw [if_neg hw] at hh
        exact ⟨fun _ _ => trivial, wpAnyIn_of hd hQ fuel _ _ _ hh⟩
/-- in a round: a region that draws its order, by the walk that holds S -/
theorem wpIn_round_held {P : Program} {l n id : Nat} {ops : Array Oper} {Q : Exit → Act → World → Prop} {S : World → Prop} {a : Act} {w : World} (hm : P.follows .mixedOrders = true) (hd : noDefer ops = true) (hS : S w.drew)
    (h : S w.drew → wpAnyH P .any ops (NoPanic (OnlyNormal Q)) S ops.size (Array.replicate ops.size false) a w.drew) : (Code.region id ops true).wpIn (Fence.wide.inRound l) n P Q a w :=
  wpIn_mono (wpIn_region_any hm (wpAnyIn_of hd not_out _ _ _ _ (wpAny_of_held _ _ _ _ (h hS)))) OnlyNormal.imp
theorem keeps_obj (D : Nat) (o : Obj) : Keeps fun z => z.heap[D]? = some o := fun a b h hb => (hb.block D (Array.getElem?_eq_some_iff.1 h).1).trans h
theorem keeps_own (X : Nat) (T : TypeId) (vs : List Value) : Keeps fun z => Own z X T vs := fun a b h k => h.keep k h.lt
theorem keeps_some {α : Type} {S : α → World → Prop} (h : ∀ x, Keeps (S x)) : Keeps fun z => ∃ x, S x z := fun a b ⟨x, hx⟩ hb => ⟨x, h x a b hx hb⟩
end Go.Proofs.Ytjehgcmcphgofaa
