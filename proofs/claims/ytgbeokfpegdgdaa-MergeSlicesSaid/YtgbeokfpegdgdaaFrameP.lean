/- What an argument that is a piece of the reference reads as. No condition. -/
import Derived.Test.YtgbeokfpegdgdaaFrame
import Derived.Test.YtgbeokfpegdgdaaMg4
import Derived.Deep.Fields
namespace Go.Proofs.Ytgbeokfpegdgdaa
open Go.ChangeShapes Go.WideShapes Go.ChangeAt Go.RowKit Go.Joins Go.Deep

set_option maxRecDepth 100000 in
theorem int_trod {H : Type} {enc : TypeId × Value → H} {W : World} {n : Nat} {T : TypeId} {v : Value} {y : DataW H × List MemPlace} (hT : Try.prog.underlying T = some (.int .i64))
    (h : DataW.trod enc Try.prog W 0 (fun _ => true) true n T [v] = some y) : ∃ x, v = .int .i64 x ∧ I64 x := by
  obtain ⟨x, hx, -, hw⟩ := DataW.trod_int hT h
  simp at hx
  exact ⟨x, hx, I64.of_wf hw⟩

set_option maxRecDepth 100000 in
theorem box_trod {H : Type} {enc : TypeId × Value → H} {W : World} {n : Nat} {c0 c1 : Value} {y : DataW H × List MemPlace}
    (h : DataW.trod enc Try.prog W 0 (fun _ => true) true n 24 [c0, c1] = some y) : ∃ p c s q f t, c0 = .slice p s.length c ∧ c1 = .slice q t.length f ∧ Ints W p s ∧ Ints W q t := by
  obtain ⟨xs, m, _, hx, _, hlen, hg⟩ := DataW.trod_struct Try.underlying24 h
  match xs, hlen with
  | [y0, y1], _ =>
    have h0 : DataW.trod enc Try.prog W 0 (fun _ => true) true m 22 [c0] = some y0 := hg 0 _ rfl
    have h1 : DataW.trod enc Try.prog W 0 (fun _ => true) true m 22 [c1] = some y1 := hg 1 _ rfl
    obtain ⟨p, c, s, rfl, hs⟩ := ints_trod Try.underlying22 Try.underlying3 (by kernel_rfl) h0
    obtain ⟨q, f, t, rfl, ht⟩ := ints_trod Try.underlying22 Try.underlying3 (by kernel_rfl) h1
    exact ⟨p, c, s, q, f, t, rfl, rfl, hs, ht⟩

set_option maxRecDepth 100000 in
theorem acc_trod {H : Type} {enc : TypeId × Value → H} {W : World} {n : Nat} {c0 c1 c2 c3 c4 c5 c6 : Value} {y : DataW H × List MemPlace}
    (h : DataW.trod enc Try.prog W 0 (fun _ => true) true n 26 [c0, c1, c2, c3, c4, c5, c6] = some y) : ∃ k b e p c s st sp md, c0 = .int .i64 k ∧ c1 = .int .i64 b ∧ c2 = .int .i64 e ∧ c3 = .slice p s.length c ∧ c4 = .int .i64 st ∧ c5 = .int .i64 sp ∧ c6 = .int .i64 md ∧ Ints W p s := by
  obtain ⟨xs, m, _, hx, _, hlen, hg⟩ := DataW.trod_struct Try.underlying26 h
  match xs, hlen with
  | [y0, y1, y2, y3, y4, y5, y6], _ =>
    have h0 : DataW.trod enc Try.prog W 0 (fun _ => true) true m 3 [c0] = some y0 := hg 0 _ rfl
    have h1 : DataW.trod enc Try.prog W 0 (fun _ => true) true m 3 [c1] = some y1 := hg 1 _ rfl
    have h2 : DataW.trod enc Try.prog W 0 (fun _ => true) true m 3 [c2] = some y2 := hg 2 _ rfl
    have h3 : DataW.trod enc Try.prog W 0 (fun _ => true) true m 22 [c3] = some y3 := hg 3 _ rfl
    have h4 : DataW.trod enc Try.prog W 0 (fun _ => true) true m 3 [c4] = some y4 := hg 4 _ rfl
    have h5 : DataW.trod enc Try.prog W 0 (fun _ => true) true m 3 [c5] = some y5 := hg 5 _ rfl
    have h6 : DataW.trod enc Try.prog W 0 (fun _ => true) true m 3 [c6] = some y6 := hg 6 _ rfl
    obtain ⟨k, rfl, -⟩ := int_trod Try.underlying3 h0
    obtain ⟨b, rfl, -⟩ := int_trod Try.underlying3 h1
    obtain ⟨e, rfl, -⟩ := int_trod Try.underlying3 h2
    obtain ⟨p, c, s, rfl, hs⟩ := ints_trod Try.underlying22 Try.underlying3 (by kernel_rfl) h3
    obtain ⟨st, rfl, -⟩ := int_trod Try.underlying3 h4
    obtain ⟨sp, rfl, -⟩ := int_trod Try.underlying3 h5
    obtain ⟨md, rfl, -⟩ := int_trod Try.underlying3 h6
    exact ⟨k, b, e, p, c, s, st, sp, md, rfl, rfl, rfl, rfl, rfl, rfl, rfl, hs⟩

set_option maxRecDepth 100000 in
theorem open_piece {H : Type} {enc : TypeId × Value → H} {W : World} {r : Reach} {b0 : Nat} {v : Value} {d : DataW H} {ps : List MemPlace}
    (hv : Value.okWide Try.prog W r b0 28 v) (h : DataW.Trod enc Try.prog W 0 (fun _ => true) true 28 v d ps) :
    ∃ x : PV, v = .agg #[.slice x.p x.lo.length x.c, .slice x.q x.hi.length x.f, .int .i64 x.k, .int .i64 x.b, .int .i64 x.e, .slice x.g x.s.length x.d, .int .i64 x.st, .int .i64 x.sp, .int .i64 x.md] ∧ PVI W x := by
  obtain ⟨cs, rfl, hsz⟩ := okWide_struct Try.underlying28 hv
  have hC : Try.prog.cellsOf 28 = 9 := by kernel_rfl
  obtain ⟨l⟩ := cs
  match l, hsz.trans hC with
  | [c0, c1, c2, c3, c4, c5, c6, c7, c8], _ =>
    obtain ⟨fuel, hf⟩ := h
    obtain ⟨xs, m, _, hx, _, hlen, hg⟩ := DataW.trod_struct Try.underlying28 hf
    match xs, hlen with
    | [y0, y1], _ =>
      have h0 : DataW.trod enc Try.prog W 0 (fun _ => true) true m 24 [c0, c1] = some y0 := hg 0 _ rfl
      have h1 : DataW.trod enc Try.prog W 0 (fun _ => true) true m 26 [c2, c3, c4, c5, c6, c7, c8] = some y1 := hg 1 _ rfl
      obtain ⟨p, c, lo, q, f, hi, rfl, rfl, i1, i2⟩ := box_trod h0
      obtain ⟨k, b, e, g, d', s, st, sp, md, rfl, rfl, rfl, rfl, rfl, rfl, rfl, i3⟩ := acc_trod h1
      exact ⟨⟨p, c, lo, q, f, hi, k, b, e, g, d', s, st, sp, md⟩, rfl, i1, i2, i3⟩
end Go.Proofs.Ytgbeokfpegdgdaa
