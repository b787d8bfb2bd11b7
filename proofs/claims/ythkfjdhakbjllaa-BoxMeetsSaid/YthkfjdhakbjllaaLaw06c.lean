/- BoxMeets, walked at every input. No condition. -/
import Derived.Test.YthkfjdhakbjllaaLaw06b
namespace Go.Proofs.Ythkfjdhakbjllaa
open Go.RowKit Go.Shelf

theorem BoxMeets_law (p0 : Option Addr) (c0 : Nat) (s0 : List Int) (q0 : Option Addr) (f0 : Nat) (t0 : List Int) (p1 : Option Addr) (c1 : Nat) (s1 : List Int) (q1 : Option Addr) (f1 : Nat) (t1 : List Int) (p2 : Option Addr) (c2 : Nat) (s2 : List Int) (q2 : Option Addr) (f2 : Nat) (t2 : List Int) (w : World)
    (h0 : Ints w p0 s0) (g0 : Ints w q0 t0) (h1 : Ints w p1 s1) (g1 : Ints w q1 t1) (h2 : Ints w p2 s2) (g2 : Ints w q2 t2) :
    Calls Try.prog 15 #[.agg #[.slice p0 s0.length c0, .slice q0 t0.length f0], .agg #[.slice p1 s1.length c1, .slice q1 t1.length f1], .agg #[.slice p2 s2.length c2, .slice q2 t2.length f2]] w fun e w' => e = .returned (.bool true) ∧ Below w.heap.size w w' := by
  cases sa : smallX s0 t0 300 with
  | false => exact Meets_nosmall p0 q0 p1 q1 p2 q2 c0 f0 c1 f1 c2 f2 s0 t0 s1 t1 s2 t2 (.inl sa) w h0 g0 h1 g1 h2 g2
  | true =>
    cases sb : smallX s1 t1 300 with
    | false => exact Meets_nosmall p0 q0 p1 q1 p2 q2 c0 f0 c1 f1 c2 f2 s0 t0 s1 t1 s2 t2 (.inr (.inl sb)) w h0 g0 h1 g1 h2 g2
    | true =>
      cases sc : smallX s2 t2 300 with
      | false => exact Meets_nosmall p0 q0 p1 q1 p2 q2 c0 f0 c1 f1 c2 f2 s0 t0 s1 t1 s2 t2 (.inr (.inr sc)) w h0 g0 h1 g1 h2 g2
      | true => exact Meets_small p0 q0 p1 q1 p2 q2 c0 f0 c1 f1 c2 f2 s0 t0 s1 t1 s2 t2 sa sb sc w h0 g0 h1 g1 h2 g2
end Go.Proofs.Ythkfjdhakbjllaa
