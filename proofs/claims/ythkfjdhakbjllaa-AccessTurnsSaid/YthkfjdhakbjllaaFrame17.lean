/- What an argument that is an access reads as. No condition. -/
import Derived.Test.YthkfjdhakbjllaaFrame
import Derived.Deep.Fields
namespace Go.Proofs.Ythkfjdhakbjllaa
open Go.ChangeShapes Go.WideShapes Go.ChangeAt Go.RowKit Go.Joins Go.Deep

set_option maxRecDepth 100000 in
theorem int_trod {H : Type} {enc : TypeId × Value → H} {W : World} {n : Nat} {T : TypeId} {v : Value} {y : DataW H × List MemPlace} (hT : Try.prog.underlying T = some (.int .i64))
    (h : DataW.trod enc Try.prog W 0 (fun _ => true) true n T [v] = some y) : ∃ x, v = .int .i64 x ∧ I64 x := by
  obtain ⟨x, hx, -, hw⟩ := DataW.trod_int hT h
  simp at hx
  exact ⟨x, hx, I64.of_wf hw⟩

section
variable {H : Type} {enc : TypeId × Value → H} {P : Program} {w : World} {base : Nat} {spare : Nat → Bool} {held : Bool}
theorem open_agg7 {r : Reach} {b0 : Nat} {t : TypeId} {f0 f1 f2 f3 f4 f5 f6 : Field} {v : Value} {d : DataW H} {p : List MemPlace} (hs : P.underlying t = some (.struct #[f0, f1, f2, f3, f4, f5, f6])) (hone : oneCellFields P #[f0, f1, f2, f3, f4, f5, f6] = true) (hC : P.cellsOf t = 7)
    (hv : Value.okWide P w r b0 t v) (h : DataW.Trod enc P w base spare held t v d p) :
    ∃ (v0 v1 v2 v3 v4 v5 v6 : Value) (y0 y1 y2 y3 y4 y5 y6 : DataW H × List MemPlace) (n : Nat), v = .agg #[v0, v1, v2, v3, v4, v5, v6] ∧
      DataW.trod enc P w base spare held n f0.type [v0] = some y0 ∧ DataW.trod enc P w base spare held n f1.type [v1] = some y1 ∧ DataW.trod enc P w base spare held n f2.type [v2] = some y2 ∧ DataW.trod enc P w base spare held n f3.type [v3] = some y3 ∧ DataW.trod enc P w base spare held n f4.type [v4] = some y4 ∧ DataW.trod enc P w base spare held n f5.type [v5] = some y5 ∧ DataW.trod enc P w base spare held n f6.type [v6] = some y6 := by
  obtain ⟨cs, rfl, hsz⟩ := okWide_struct hs hv
  obtain ⟨l⟩ := cs
  match l, hsz.trans hC with
  | [c0, c1, c2, c3, c4, c5, c6], _ =>
    obtain ⟨fuel, hf⟩ := h
    obtain ⟨xs, n, _, hx, _, hlen, hg⟩ := DataW.trod_struct hs hf
    obtain ⟨o0, k0⟩ := hone_of hone 0 f0 rfl
    obtain ⟨o1, k1⟩ := hone_of hone 1 f1 rfl
    obtain ⟨o2, k2⟩ := hone_of hone 2 f2 rfl
    obtain ⟨o3, k3⟩ := hone_of hone 3 f3 rfl
    obtain ⟨o4, k4⟩ := hone_of hone 4 f4 rfl
    obtain ⟨o5, k5⟩ := hone_of hone 5 f5 rfl
    obtain ⟨o6, k6⟩ := hone_of hone 6 f6 rfl
    match xs, hlen with
    | [y0, y1, y2, y3, y4, y5, y6], _ =>
      exact ⟨c0, c1, c2, c3, c4, c5, c6, y0, y1, y2, y3, y4, y5, y6, n, rfl, by simpa [Value.cells, o0, k0] using hg 0 f0 rfl, by simpa [Value.cells, o1, k1] using hg 1 f1 rfl, by simpa [Value.cells, o2, k2] using hg 2 f2 rfl, by simpa [Value.cells, o3, k3] using hg 3 f3 rfl, by simpa [Value.cells, o4, k4] using hg 4 f4 rfl, by simpa [Value.cells, o5, k5] using hg 5 f5 rfl, by simpa [Value.cells, o6, k6] using hg 6 f6 rfl⟩
end

set_option maxRecDepth 100000 in
theorem open_access {H : Type} {enc : TypeId × Value → H} {W : World} {r : Reach} {b0 : Nat} {v : Value} {d : DataW H} {ps : List MemPlace}
    (hv : Value.okWide Try.prog W r b0 89 v) (h : DataW.Trod enc Try.prog W 0 (fun _ => true) true 89 v d ps) :
    ∃ k b e p c s st sp md, v = .agg #[.int .i64 k, .int .i64 b, .int .i64 e, .slice p s.length c, .int .i64 st, .int .i64 sp, .int .i64 md] ∧ Ints W p s ∧ I64 k ∧ I64 b ∧ I64 e ∧ I64 st ∧ I64 sp ∧ I64 md := by
  obtain ⟨v0, v1, v2, v3, v4, v5, v6, y0, y1, y2, y3, y4, y5, y6, n, rfl, h0, h1, h2, h3, h4, h5, h6⟩ := open_agg7 Try.underlying89 (by kernel_rfl) (by kernel_rfl) hv h
  obtain ⟨k, rfl, hk⟩ := int_trod Try.underlying3 h0
  obtain ⟨b, rfl, hb⟩ := int_trod Try.underlying3 h1
  obtain ⟨e, rfl, he⟩ := int_trod Try.underlying3 h2
  obtain ⟨p, c, s, rfl, hs⟩ := ints_trod Try.underlying22 Try.underlying3 (by kernel_rfl) h3
  obtain ⟨st, rfl, hst⟩ := int_trod Try.underlying3 h4
  obtain ⟨sp, rfl, hsp⟩ := int_trod Try.underlying3 h5
  obtain ⟨md, rfl, hmd⟩ := int_trod Try.underlying3 h6
  exact ⟨k, b, e, p, c, s, st, sp, md, rfl, hs, hk, hb, he, hst, hsp, hmd⟩
end Go.Proofs.Ythkfjdhakbjllaa
