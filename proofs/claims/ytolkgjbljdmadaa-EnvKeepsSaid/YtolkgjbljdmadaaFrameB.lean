/- What arguments that are bindings, lists of bindings, texts read as. No condition. -/
import Derived.Test.YtolkgjbljdmadaaFrame
import Derived.Test.YtolkgjbljdmadaaEnv1
import Derived.Deep.Slices
import Derived.Deep.Fields
namespace Go.Proofs.Ytolkgjbljdmadaa
open Go.ChangeShapes Go.WideShapes Go.ChangeAt Go.RowKit Go.Joins Go.Deep
open Go.ChangeMaps (open_string)
set_option linter.unusedVariables false

theorem choose_list (P : Nat → BV → Prop) : ∀ n : Nat, (∀ i, i < n → ∃ b, P i b) → ∃ bs : List BV, bs.length = n ∧ ∀ i, i < n → P i (bth bs i) := by
  intro n
  induction n with
  | zero => intro _; exact ⟨[], rfl, fun i hi => by omega⟩
  | succ n ih =>
    intro h
    obtain ⟨bs, hl, hb⟩ := ih fun i hi => h i (by omega)
    obtain ⟨b, hb'⟩ := h n (by omega)
    refine ⟨bs ++ [b], by simp [hl], fun i hi => ?_⟩
    unfold bth
    by_cases hin : i < n
    · rw [List.getD_eq_getElem?_getD, List.getElem?_append_left (by omega), ← List.getD_eq_getElem?_getD]
      exact hb i hin
    · have : i = bs.length := by omega
      subst this
      rw [List.getD_eq_getElem?_getD, List.getElem?_append_right (Nat.le_refl _)]
      simp
      rw [hl]
      exact hb'

theorem cells3 {cs : List Value} (h : cs.length = 3) : ∃ a b c, cs = [a, b, c] := by
  match cs, h with
  | [a, b, c], _ => exact ⟨a, b, c, rfl⟩

set_option maxRecDepth 100000 in
theorem bind_trod {H : Type} {enc : TypeId × Value → H} {W : World} {n : Nat} {cs : List Value} {y : DataW H × List MemPlace}
    (h : DataW.trod enc Try.prog W 0 (fun _ => true) true n 62 cs = some y) : ∃ b : BV, cs = b.cells ∧ Ints W b.sp b.s ∧ Ints W b.dp b.d ∧ b.name.size ≤ 9223372036854775807 := by
  obtain ⟨xs, m, -, -, hlen, hxl, hg⟩ := DataW.trod_struct Try.underlying62 h
  have hc : Try.prog.cellsOf 62 = 3 := by kernel_rfl
  rw [hc] at hlen
  obtain ⟨a, b, c, rfl⟩ := cells3 hlen
  have c1 : Try.prog.cellsOf 9 = 1 := by kernel_rfl
  have c2 : Try.prog.cellsOf 47 = 2 := by kernel_rfl
  have g0a : DataW.trod enc Try.prog W 0 (fun _ => true) true m 9 (([a, b, c].drop 0).take (Try.prog.cellsOf 9)) = xs[0]? := hg 0 _ rfl
  have g1a : DataW.trod enc Try.prog W 0 (fun _ => true) true m 47 (([a, b, c].drop 1).take (Try.prog.cellsOf 47)) = xs[1]? := hg 1 _ rfl
  rw [c1] at g0a
  rw [c2] at g1a
  have g0 : DataW.trod enc Try.prog W 0 (fun _ => true) true m 9 [a] = xs[0]? := g0a
  have g1 : DataW.trod enc Try.prog W 0 (fun _ => true) true m 47 [b, c] = xs[1]? := g1a
  have hx0 : xs[0]? = some (xs[0]'(by rw [hxl]; decide)) := List.getElem?_eq_getElem _
  have hx1 : xs[1]? = some (xs[1]'(by rw [hxl]; decide)) := List.getElem?_eq_getElem _
  clear g0a g1a
  rw [hx0] at g0
  rw [hx1] at g1
  obtain ⟨s, hs, -, hsz⟩ := DataW.trod_string Try.underlying9 g0
  simp only [List.cons.injEq, and_true] at hs
  subst hs
  obtain ⟨zs, m', -, -, -, hzl, hg'⟩ := DataW.trod_struct Try.underlying47 g1
  have d1 : Try.prog.cellsOf 26 = 1 := by kernel_rfl
  have d2 : Try.prog.cellsOf 22 = 1 := by kernel_rfl
  have k0a : DataW.trod enc Try.prog W 0 (fun _ => true) true m' 26 (([b, c].drop 0).take (Try.prog.cellsOf 26)) = zs[0]? := hg' 0 _ rfl
  have k1a : DataW.trod enc Try.prog W 0 (fun _ => true) true m' 22 (([b, c].drop 1).take (Try.prog.cellsOf 22)) = zs[1]? := hg' 1 _ rfl
  rw [d1] at k0a
  rw [d2] at k1a
  have k0 : DataW.trod enc Try.prog W 0 (fun _ => true) true m' 26 [b] = zs[0]? := k0a
  have k1 : DataW.trod enc Try.prog W 0 (fun _ => true) true m' 22 [c] = zs[1]? := k1a
  have hz0 : zs[0]? = some (zs[0]'(by rw [hzl]; decide)) := List.getElem?_eq_getElem _
  have hz1 : zs[1]? = some (zs[1]'(by rw [hzl]; decide)) := List.getElem?_eq_getElem _
  clear k0a k1a
  rw [hz0] at k0
  rw [hz1] at k1
  obtain ⟨sp, sc, s', rfl, i1⟩ := ints_trod Try.underlying26 Try.underlying3 (by kernel_rfl) k0
  obtain ⟨dp, dc, d', rfl, i2⟩ := ints_trod Try.underlying22 Try.underlying2 (by kernel_rfl) k1
  exact ⟨⟨s, sp, sc, s', dp, dc, d'⟩, rfl, i1, i2, by unfold maxLen at hsz; omega⟩

set_option maxRecDepth 100000 in
theorem open_binds {H : Type} {enc : TypeId × Value → H} {W : World} {r : Reach} {b0 : Nat} {v : Value} {d : DataW H} {ps : List MemPlace}
    (hv : Value.okWide Try.prog W r b0 45 v) (h : DataW.Trod enc Try.prog W 0 (fun _ => true) true 45 v d ps) : ∃ p c bs, v = .slice p bs.length c ∧ Binds W p bs := by
  obtain ⟨a, l, c, rfl⟩ := okWide_slice Try.underlying45 hv
  obtain ⟨n, hf⟩ := h
  have hc : Try.prog.cellsOf 62 = 3 := by kernel_rfl
  rcases open_slice Try.underlying45 hf with ⟨hcs, _⟩ | ⟨x, len, cap, m, n', D, Pl, hcs, hb, hl, hm, hmm, hx, hi⟩
  · simp [Value.cells] at hcs
    obtain ⟨rfl, rfl, rfl⟩ := hcs
    exact ⟨none, 0, [], rfl, .inl rfl, by simp, by simp⟩
  · simp [Value.cells] at hcs
    obtain ⟨rfl, rfl, rfl⟩ := hcs
    have hmm' : m = c := by rw [hmm]; rfl
    obtain ⟨bs, hbl, hbs⟩ := choose_list (fun i b => (∀ j, j < 3 → W.cell? (x.add (i * 3 + j)) = b.cells[j]?) ∧ Ints W b.sp b.s ∧ Ints W b.dp b.d ∧ b.name.size ≤ 9223372036854775807) l fun i hil => by
      obtain ⟨cs', h1, h2⟩ := hi i (by omega)
      rw [hc] at h1
      obtain ⟨b, rfl, k1, k2, k3⟩ := bind_trod h2
      obtain ⟨_, hcl, hat⟩ := World.cells?_some h1
      exact ⟨b, fun j hj => by rw [← add_add]; exact hat j hj, k1, k2, k3⟩
    subst hbl
    refine ⟨some x, c, bs, rfl, ?_, fun b hb => ?_, by unfold maxLen at hm; omega⟩
    · by_cases h0 : bs.length = 0
      · exact .inl (by rw [List.eq_nil_of_length_eq_zero h0]; rfl)
      · obtain ⟨b, off, spot⟩ := x
        have hc0 := (hbs 0 (by omega)).1 0 (by omega)
        have hcs0 : (bth bs 0).cells[0]? = some (.string (bth bs 0).name) := rfl
        rw [hcs0] at hc0
        have hspot : spot = none := by simpa [Addr.add] using World.cell?_spot hc0
        subst hspot
        have hblt := World.block_lt_of_cell? W _ hc0
        refine .inr ⟨b, off, rfl, by simpa [Addr.add] using hblt, fun i u hu => ?_⟩
        have hlen := rowsB_len bs
        have hil : i < 3 * bs.length := by
          have := (List.getElem?_eq_some_iff.1 hu).1
          omega
        have e : i = i / 3 * 3 + i % 3 := by omega
        have hk : i / 3 < bs.length := by omega
        rw [e, rowsB_at hk (by omega)] at hu
        have := (hbs (i / 3) hk).1 (i % 3) (by omega)
        rw [Addr.add_lit] at this
        rw [e, this]
        exact hu
    · obtain ⟨i, hil, rfl⟩ := List.mem_iff_getElem.1 hb
      have := bth_get? hil
      rw [List.getElem?_eq_getElem hil] at this
      rw [Option.some.inj this]
      exact (hbs i hil).2

set_option maxRecDepth 100000 in
theorem binds_cap {H : Type} {enc : TypeId × Value → H} {W : World} {a : Option Addr} {l c : Nat} {d : DataW H} {ps : List MemPlace}
    (h : DataW.Trod enc Try.prog W 0 (fun _ => true) true 45 (.slice a l c) d ps) : l ≤ c := by
  obtain ⟨n, hf⟩ := h
  rcases open_slice Try.underlying45 hf with ⟨hcs, _⟩ | ⟨x, len, cap, m, n', D, Pl, hcs, hb, hl, _⟩
  · simp [Value.cells] at hcs
    omega
  · simp [Value.cells] at hcs
    omega
end Go.Proofs.Ytolkgjbljdmadaa
