/- What an argument that is a tree reads as. No condition. -/
import Derived.Test.YtjehgcmcphgofaaFrame
import Derived.Test.YtjehgcmcphgofaaTr34
import Derived.Deep.Fields
import Derived.Deep.Slices
import Derived.SizedLaws
namespace Go.Proofs.Ytjehgcmcphgofaa
open Go.ChangeShapes Go.WideShapes Go.ChangeAt Go.RowKit Go.Joins Go.Deep

set_option maxRecDepth 100000 in
theorem int_trod {H : Type} {enc : TypeId × Value → H} {W : World} {n : Nat} {T : TypeId} {v : Value} {y : DataW H × List MemPlace} (hT : Try.prog.underlying T = some (.int .i64))
    (h : DataW.trod enc Try.prog W 0 (fun _ => true) true n T [v] = some y) : ∃ x, v = .int .i64 x := by
  obtain ⟨x, hx, -, -⟩ := DataW.trod_int hT h
  simp at hx
  exact ⟨x, hx⟩
theorem choose_kids (P : Nat → TV → Prop) (n : Nat) (h : ∀ i, i < n → ∃ t, P i t) : ∃ kids : Nat → TV, ∀ i, i < n → P i (kids i) := by
  refine ⟨fun i => if hi : i < n then Classical.choose (h i hi) else .nil, fun i hi => ?_⟩
  show P i (if hi : i < n then Classical.choose (h i hi) else .nil)
  rw [dif_pos hi]
  exact Classical.choose_spec (h i hi)

/-- no part of a datum is wider than memory -/
def InReach {H : Type} (t : TypeId) (d : DataW H) : Prop := ∀ n ∈ DataW.weights Try.prog t d, n ≤ reachBytes
theorem weights_mem_all {H : Type} {P : Program} {e : TypeId} : ∀ {ds : List (DataW H)} {d : DataW H}, d ∈ ds → ∀ n ∈ d.weights P e, n ∈ DataW.weightsAll P e ds
  | d0 :: ds, d, hd, n, hn => by
    simp only [DataW.weightsAll, List.mem_append]
    rcases List.mem_cons.1 hd with rfl | hd
    · exact .inl hn
    · exact .inr (weights_mem_all hd n hn)
theorem InReach.elem {H : Type} {t e : TypeId} {elems spare : List (DataW H)} (hu : Try.prog.underlying t = some (.slice e)) (h : InReach t (.slice elems spare)) {d : DataW H} (hd : d ∈ elems) : InReach e d := fun n hn => h n (by
  simp only [DataW.weights, hu, List.mem_cons, List.mem_append]
  exact .inr (.inl (weights_mem_all hd n hn)))
theorem InReach.len {H : Type} {t e : TypeId} {elems spare : List (DataW H)} (hu : Try.prog.underlying t = some (.slice e)) (h : InReach t (.slice elems spare)) : elems.length * Try.prog.bytesOf e ≤ reachBytes := by
  have := h ((elems.length + spare.length) * Try.prog.bytesOf e) (by simp [DataW.weights, hu])
  rw [Nat.add_mul] at this
  omega
theorem InReach.field {H : Type} {t f : TypeId} {fs : Array Field} {ds : List (DataW H)} {d : DataW H} {j : Nat} (hu : Try.prog.underlying t = some (.struct fs)) (h : InReach t (.agg ds)) (hf : (fs.toList.map (·.type))[j]? = some f) (hd : ds[j]? = some d) : InReach f d := fun n hn => h n (by
  simp only [DataW.weights, hu]
  exact DataW.weights_mem_each hf hd n hn)

set_option maxRecDepth 100000 in
theorem tree_trod {H : Type} {enc : TypeId × Value → H} {W : World} : ∀ (n : Nat) {cs : List Value} {y : DataW H × List MemPlace}, DataW.trod enc Try.prog W 0 (fun _ => true) true n 25 cs = some y →
    ∃ t : TV, cs = [.int .i64 t.d.kind, .int .i64 t.d.fn, .int .i64 t.d.axis, .string t.d.name, .slice t.d.np t.d.nums.length t.d.nc, .slice t.d.kp t.d.n t.d.kc] ∧ TreeIn W t ∧ NamesIn t ∧ (InReach 25 y.1 → NumsIn t) := by
  intro n
  induction n using Nat.strongRecOn with
  | ind n ih =>
    intro cs y h
    obtain ⟨xs, m, hn, hy, hcl, hlen, hg⟩ := DataW.trod_struct Try.underlying25 h
    have hC : Try.prog.cellsOf 25 = 6 := by kernel_rfl
    match cs, hcl.trans hC with
    | [c0, c1, c2, c3, c4, c5], _ =>
      match xs, hlen with
      | [y0, y1, y2, y3, y4, y5], _ =>
        have h0 : DataW.trod enc Try.prog W 0 (fun _ => true) true m 3 [c0] = some y0 := hg 0 _ rfl
        have h1 : DataW.trod enc Try.prog W 0 (fun _ => true) true m 3 [c1] = some y1 := hg 1 _ rfl
        have h2 : DataW.trod enc Try.prog W 0 (fun _ => true) true m 3 [c2] = some y2 := hg 2 _ rfl
        have h3 : DataW.trod enc Try.prog W 0 (fun _ => true) true m 9 [c3] = some y3 := hg 3 _ rfl
        have h4 : DataW.trod enc Try.prog W 0 (fun _ => true) true m 22 [c4] = some y4 := hg 4 _ rfl
        have h5 : DataW.trod enc Try.prog W 0 (fun _ => true) true m 23 [c5] = some y5 := hg 5 _ rfl
        obtain ⟨k, rfl⟩ := int_trod Try.underlying3 h0
        obtain ⟨f, rfl⟩ := int_trod Try.underlying3 h1
        obtain ⟨a, rfl⟩ := int_trod Try.underlying3 h2
        obtain ⟨s, hs, -, hsz⟩ := DataW.trod_string Try.underlying9 h3
        subst hy
        have hnl : ∀ {p : Option Addr} {l c : Nat}, c4 = .slice p l c → InReach 22 y4.1 → l ≤ 140737488355328 := by
          rintro p l c rfl hr
          rcases DataW.trod_slice Try.underlying22 h4 with ⟨hcs, _⟩ | ⟨x, len, cap, elems, rest, n', hm, hcs, hy4, -, hl, hcap, hel, -⟩
          · simp only [List.cons.injEq, and_true, Value.slice.injEq] at hcs
            omega
          · simp only [List.cons.injEq, and_true, Value.slice.injEq] at hcs
            subst hy4
            have h8 : Try.prog.bytesOf 2 = 8 := by kernel_rfl
            have := hr.len Try.underlying22
            rw [h8, List.length_map, hel] at this
            unfold reachBytes at this
            omega
        obtain ⟨np, nc, nums, rfl, hnums⟩ := ints_trod Try.underlying22 Try.underlying2 (by kernel_rfl) h4
        simp only [List.cons.injEq, and_true] at hs
        subst hs
        have hnl := fun (hr : InReach 25 (DataW.agg (List.map (·.1) [y0, y1, y2, y3, y4, y5]))) => hnl rfl (InReach.field Try.underlying25 (j := 4) hr rfl rfl)
        rcases DataW.trod_slice Try.underlying23 h5 with ⟨hcs, _⟩ | ⟨x, len, cap, elems, rest, n', hm, hcs, hy5, -, hl, hcap, hel, hi, -, -⟩
        · simp only [List.cons.injEq, and_true] at hcs
          subst hcs
          exact ⟨.mk ⟨k, f, a, s, np, nc, nums, none, 0, 0⟩ fun _ => .nil, rfl, ⟨hnums, by simp, fun h => (Nat.lt_irrefl _ h).elim, fun i hi => (Nat.not_lt_zero _ hi).elim⟩, ⟨by show s.size ≤ _; unfold maxLen at hsz; omega, fun i hi => (Nat.not_lt_zero _ hi).elim⟩, fun hr => ⟨hnl hr, fun i hi => (Nat.not_lt_zero _ hi).elim⟩⟩
        · simp only [List.cons.injEq, and_true] at hcs
          subst hcs
          rw [hC] at hi
          subst hy5
          obtain ⟨kids, hk⟩ := choose_kids (fun i t => (∀ j, j < 6 → W.cell? (x.add (i * 6 + j)) = [.int .i64 t.d.kind, .int .i64 t.d.fn, .int .i64 t.d.axis, .string t.d.name, .slice t.d.np t.d.nums.length t.d.nc, .slice t.d.kp t.d.n t.d.kc][j]?) ∧ TreeIn W t ∧ NamesIn t ∧ (InReach 23 (.slice (elems.map (·.1)) (rest.map (·.1))) → NumsIn t)) len fun i hil => by
            have h1 := hi i hil
            rw [List.getElem?_eq_getElem (by omega)] at h1
            obtain ⟨cs', h2, h3⟩ := Option.bind_eq_some_iff.1 h1
            obtain ⟨t, rfl, ht, hN⟩ := ih n' (by omega) h3
            obtain ⟨_, hcl, hat⟩ := World.cells?_some h2
            exact ⟨t, fun j hj => by rw [← add_add]; exact hat j hj, ht, hN.1, fun hr => hN.2 (hr.elem Try.underlying23 (List.mem_map.2 ⟨elems[i]'(by omega), List.getElem_mem _, rfl⟩))⟩
          refine ⟨.mk ⟨k, f, a, s, np, nc, nums, some x, cap, len⟩ kids, rfl, ⟨hnums, by show len ≤ _; unfold maxLen at hcap; omega, fun h0 => ?_, fun i hi => (hk i hi).2.1⟩, ⟨by show s.size ≤ _; unfold maxLen at hsz; omega, fun i hi => (hk i hi).2.2.1⟩, fun hr => ⟨hnl hr, fun i hi => (hk i hi).2.2.2 (InReach.field Try.underlying25 (j := 5) hr rfl rfl)⟩⟩
          have h00 : 0 < len := h0
          obtain ⟨b, off, spot⟩ := x
          have hc0 := (hk 0 h00).1 0 (by omega)
          have hspot : spot = none := by simpa [Addr.add] using World.cell?_spot hc0
          subst hspot
          have hblt := World.block_lt_of_cell? W _ hc0
          refine ⟨b, off, rfl, by simpa [Addr.add] using hblt, fun i hil => ?_⟩
          have hc : ∀ j u, j < 6 → [.int .i64 (kids i).d.kind, .int .i64 (kids i).d.fn, .int .i64 (kids i).d.axis, .string (kids i).d.name, .slice (kids i).d.np (kids i).d.nums.length (kids i).d.nc, .slice (kids i).d.kp (kids i).d.n (kids i).d.kc][j]? = some u → W.cell? ⟨b, off + i * 6 + j, none⟩ = some u := fun j u hj hu => by
            have := (hk i hil).1 j hj
            rw [Addr.add_lit, ← Nat.add_assoc] at this
            exact this.trans hu
          exact ⟨hc 0 _ (by omega) rfl, hc 1 _ (by omega) rfl, hc 2 _ (by omega) rfl, hc 3 _ (by omega) rfl, hc 4 _ (by omega) rfl, hc 5 _ (by omega) rfl⟩

set_option maxRecDepth 100000 in
theorem open_tree {H : Type} {enc : TypeId × Value → H} {W : World} {r : Reach} {b0 : Nat} {v : Value} {d : DataW H} {ps : List MemPlace}
    (hv : Value.okWide Try.prog W r b0 25 v) (h : DataW.Trod enc Try.prog W 0 (fun _ => true) true 25 v d ps) :
    ∃ x : TV, v = .agg #[.int .i64 x.d.kind, .int .i64 x.d.fn, .int .i64 x.d.axis, .string x.d.name, .slice x.d.np x.d.nums.length x.d.nc, .slice x.d.kp x.d.n x.d.kc] ∧ TreeIn W x ∧ NamesIn x ∧ (InReach 25 d → NumsIn x) := by
  obtain ⟨cs, rfl, hsz⟩ := okWide_struct Try.underlying25 hv
  obtain ⟨fuel, hf⟩ := h
  obtain ⟨t, ht, h1, h2⟩ := tree_trod fuel hf
  obtain ⟨l⟩ := cs
  have : l = [.int .i64 t.d.kind, .int .i64 t.d.fn, .int .i64 t.d.axis, .string t.d.name, .slice t.d.np t.d.nums.length t.d.nc, .slice t.d.kp t.d.n t.d.kc] := ht
  subst this
  exact ⟨t, rfl, h1, h2⟩
end Go.Proofs.Ytjehgcmcphgofaa
