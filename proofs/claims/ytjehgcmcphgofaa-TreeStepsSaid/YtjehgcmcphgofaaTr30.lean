/- spoil: what it writes. No condition beyond what each says. -/
import Derived.Test.YtjehgcmcphgofaaTr29
namespace Go.Proofs.Ytjehgcmcphgofaa
open Go.RowKit Go.Shelf
set_option linter.unusedVariables false
set_option linter.unusedSimpArgs false

/-- numbers are changed to numbers, in blocks from B on; new blocks -/
structure SpR (B : Nat) (W Z : World) : Prop where
  below : Below B W Z
  cell : ∀ (a : Addr) v, W.cell? a = some v → Z.cell? a = some v ∨ ∃ x y, v = .int .i64 x ∧ Z.cell? a = some (.int .i64 y)
  frozen : ∀ (a : Addr) v, W.cell? a = some v → W.frozen? a = false → Z.frozen? a = false
theorem SpR.trans {B : Nat} {U V W : World} (h : SpR B U V) (k : SpR B V W) : SpR B U W := by
  refine ⟨h.below.trans k.below, fun a v hv => ?_, fun a v hv hf => ?_⟩
  · rcases h.cell a v hv with h1 | ⟨x, y, rfl, h1⟩
    · exact k.cell a v h1
    · rcases k.cell a _ h1 with h2 | ⟨x', y', e, h2⟩
      · exact .inr ⟨x, y, rfl, h2⟩
      · exact .inr ⟨x, y', rfl, h2⟩
  · rcases h.cell a v hv with h1 | ⟨x, y, rfl, h1⟩
    · exact k.frozen a v h1 (h.frozen a v hv hf)
    · exact k.frozen a _ h1 (h.frozen a _ hv hf)
theorem cell_lt {W : World} {a : Addr} {v : Value} (h : W.cell? a = some v) : a.block < W.heap.size := by
  rcases Nat.lt_or_ge a.block W.heap.size with hl | hl
  · exact hl
  · unfold World.cell? at h
    rw [Array.getElem?_eq_none hl] at h
    cases h
theorem SpR.of_below {B : Nat} {W Z : World} (h : Below W.heap.size W Z) (hB : B ≤ W.heap.size) : SpR B W Z :=
  ⟨h.mono hB, fun a v hv => .inl ((h.cell (cell_lt hv)).trans hv), fun a v hv hf => (h.frozen (cell_lt hv)).trans hf⟩
theorem SpR.set {B : Nat} {W : World} {g i : Nat} {x : Int} (h : W.cell? ⟨g, i, none⟩ = some (.int .i64 x)) (hB : B ≤ g) (y : Int) : SpR B W (W.setCell ⟨g, i, none⟩ (.int .i64 y)) := by
  refine ⟨(Below.refl _ _).setCell (p := ⟨g, i, none⟩) hB _, fun a v hv => ?_, fun a v hv hf => by rw [World.frozen?_setCell]; exact hf⟩
  by_cases e : a = ⟨g, i, none⟩
  · subst e
    rw [h] at hv
    cases hv
    exact .inr ⟨x, y, rfl, World.cell?_setCell_same' _ _ _ (by rw [h]; rfl)⟩
  · refine .inl (Eq.trans ?_ hv)
    unfold World.cell? World.setCell
    simp only [Array.getElem?_modify]
    by_cases hb : g = a.block
    · rw [if_pos hb]
      unfold World.cell? at hv
      cases ho : W.heap[a.block]? with
      | none => rfl
      | some o =>
        cases o with
        | cells c T q =>
          rw [ho] at hv
          simp only at hv
          by_cases hs : a.spot.isSome = true
          · rw [if_pos hs] at hv; cases hv
          · simp only [Option.map_some, if_neg hs]
            have hne : i ≠ a.off := fun e' => e (by
              obtain ⟨b, off, spot⟩ := a
              simp only at hb e' hs
              have : spot = none := by simpa using hs
              subst hb e' this
              rfl)
            simp [Array.getElem?_setIfInBounds, hne]
        | _ => rfl
    · rw [if_neg hb]
def IntRow (W : World) (g n : Nat) : Prop := ∀ i, i < n → (∃ y, W.cell? ⟨g, i, none⟩ = some (.int .i64 y)) ∧ W.frozen? ⟨g, i, none⟩ = false
structure SpNode (W : World) (g o : Nat) (d : TD) : Prop where
  c0 : ∃ y, W.cell? ⟨g, o, none⟩ = some (.int .i64 y)
  c1 : ∃ y, W.cell? ⟨g, o + 1, none⟩ = some (.int .i64 y)
  c2 : ∃ y, W.cell? ⟨g, o + 2, none⟩ = some (.int .i64 y)
  c3 : W.cell? ⟨g, o + 3, none⟩ = some (.string d.name)
  c4 : W.cell? ⟨g, o + 4, none⟩ = some (.slice d.np d.nums.length d.nc)
  c5 : W.cell? ⟨g, o + 5, none⟩ = some (.slice d.kp d.n d.kc)
  fr : W.frozen? ⟨g, o, none⟩ = false
/-- a tree whose numbers may be changed, in blocks from B on -/
def Sp (B : Nat) (W : World) : TV → Prop
  | .nil => False
  | .mk d kids => (d.nums.length ≤ 1000000 ∧ d.n ≤ 1000000) ∧ (d.nums.length = 0 ∨ ∃ g, d.np = some ⟨g, 0, none⟩ ∧ B ≤ g ∧ IntRow W g d.nums.length) ∧
      (d.n = 0 ∨ ∃ g, d.kp = some ⟨g, 0, none⟩ ∧ B ≤ g ∧ ∀ i, i < d.n → SpNode W g (i * 6) (kids i).d) ∧ ∀ i, i < d.n → Sp B W (kids i)
theorem SpR.int {B : Nat} {W Z : World} (h : SpR B W Z) {a : Addr} (hy : ∃ y, W.cell? a = some (.int .i64 y)) : ∃ y, Z.cell? a = some (.int .i64 y) := by
  obtain ⟨y, hy⟩ := hy
  rcases h.cell a _ hy with h1 | ⟨x, y', -, h1⟩
  · exact ⟨y, h1⟩
  · exact ⟨y', h1⟩
theorem SpR.other {B : Nat} {W Z : World} (h : SpR B W Z) {a : Addr} {v : Value} (hv : W.cell? a = some v) (hn : ∀ x, v ≠ .int .i64 x) : Z.cell? a = some v := by
  rcases h.cell a _ hv with h1 | ⟨x, y', e, -⟩
  · exact h1
  · exact (hn x e).elim
theorem Sp.keep {B : Nat} {W Z : World} (h : SpR B W Z) : ∀ {t : TV}, Sp B W t → Sp B Z t
  | .nil, h => False.elim h
  | .mk d kids, ⟨h1, h2, h3, h4⟩ => by
    refine ⟨h1, ?_, ?_, fun i hi => (h4 i hi).keep h⟩
    · rcases h2 with h2 | ⟨g, hp, hB, hr⟩
      · exact .inl h2
      · exact .inr ⟨g, hp, hB, fun i hi => by
          obtain ⟨⟨y, hy⟩, hf⟩ := hr i hi
          exact ⟨h.int ⟨y, hy⟩, h.frozen _ _ hy hf⟩⟩
    · rcases h3 with h3 | ⟨g, hp, hB, hr⟩
      · exact .inl h3
      · exact .inr ⟨g, hp, hB, fun i hi => by
          have n := hr i hi
          obtain ⟨y, hy⟩ := n.c0
          exact ⟨h.int ⟨y, hy⟩, h.int n.c1, h.int n.c2, h.other n.c3 (by simp), h.other n.c4 (by simp), h.other n.c5 (by simp), h.frozen _ _ hy n.fr⟩⟩
theorem TreeS.sp {B : Nat} {w : World} : ∀ {t : TV}, TreeS (fun k => B ≤ k) w t → Sp B w t
  | .nil, h => False.elim h
  | .mk d kids, ⟨h1, ⟨h64, hl, hn⟩, h3, h4⟩ => by
    refine ⟨⟨hl, hn⟩, ?_, ?_, fun i hi => (h4 i hi).sp⟩
    · rcases h1 with h | ⟨g, hp, hg, ho⟩
      · exact .inl (by rw [h]; rfl)
      · exact .inr ⟨g, hp, hg, fun i hi => ⟨⟨_, ho.cell (nth_map hi)⟩, ho.frozen i⟩⟩
    · rcases h3 with h | ⟨g, hp, hg, ho⟩
      · exact .inl h
      · refine .inr ⟨g, hp, hg, fun i hi => ?_⟩
        have hc : ∀ j u, j < 6 → (cellsT (kids i).d)[j]? = some u → w.cell? ⟨g, i * 6 + j, none⟩ = some u := fun j u hj hu => ho.cell ((flatT_get (kids_get hi) hj).trans hu)
        exact ⟨⟨_, hc 0 _ (by omega) rfl⟩, ⟨_, hc 1 _ (by omega) rfl⟩, ⟨_, hc 2 _ (by omega) rfl⟩, hc 3 _ (by omega) rfl, hc 4 _ (by omega) rfl, hc 5 _ (by omega) rfl, ho.frozen _⟩

set_option maxHeartbeats 2000000 in
theorem spoil_step (d : TD) (kids : Nat → TV) (B : Nat) (ih : ∀ i (a b c : Int) w, B ≤ w.heap.size → Sp B w (kids i) → Calls Try.prog 25 #[.agg #[.int .i64 a, .int .i64 b, .int .i64 c, .string (kids i).d.name, .slice (kids i).d.np (kids i).d.nums.length (kids i).d.nc, .slice (kids i).d.kp (kids i).d.n (kids i).d.kc]] w fun e w' => (∃ v, e = .returned v) ∧ SpR B w w')
    (a b c : Int) (w : World) (hB : B ≤ w.heap.size) (h : Sp B w (.mk d kids)) : Calls Try.prog 25 #[.agg #[.int .i64 a, .int .i64 b, .int .i64 c, .string d.name, .slice d.np d.nums.length d.nc, .slice d.kp d.n d.kc]] w fun e w' => (∃ v, e = .returned v) ∧ SpR B w w' := by
  have oA := Own.made w _ [.int .i64 a, .int .i64 b, .int .i64 c, .string d.name, .slice d.np d.nums.length d.nc, .slice d.kp d.n d.kc] 25 rfl
  have hba := below_alloc w (.cells #[.int .i64 a, .int .i64 b, .int .i64 c, .string d.name, .slice d.np d.nums.length d.nc, .slice d.kp d.n d.kc] 25)
  obtain ⟨W, hW⟩ : ∃ W, w.alloc (.cells #[.int .i64 a, .int .i64 b, .int .i64 c, .string d.name, .slice d.np d.nums.length d.nc, .slice d.kp d.n d.kc] 25) = W := ⟨_, rfl⟩
  have oA : Own W w.heap.size 25 [.int .i64 a, .int .i64 b, .int .i64 c, .string d.name, .slice d.np d.nums.length d.nc, .slice d.kp d.n d.kc] := hW ▸ oA
  rw [hW] at hba
  have hl := h.1
  have HS := Lib.hid (SpR.of_below hba hB)
  have HT := Lib.hid (h.keep HS.out)
  have HW := Lib.hid hW
  have IH := Lib.hid ih
  have HA4 := Lib.hid (oA.cell (i := 4) rfl)
  have HA5 := Lib.hid (oA.cell (i := 5) rfl)
  have hA4 := HA4.out
  have HBW : Hid (B ≤ W.heap.size) := Nat.le_trans hB hba.size
  clear h ih oA hba hW
  go_enter Try.func25, Try.ntmps25
  go_wp2_with fail
  rw [HW.out]
  clear HW hB
  go_wp2_with fail
  clear hA4
  go_loopw [2] (fun i wr => ∃ (k : Nat) (wz : World), wz = wr ∧ k ≤ d.nums.length ∧ i = .int .i64 k ∧ Hid (SpR B W wz)) (fun i _ => d.nums.length - (intOf i).toNat)
  case atStart => exact ⟨0, W, rfl, Nat.zero_le _, rfl, SpR.of_below (Below.refl _ _) HBW.out⟩
  case round =>
    obtain ⟨k, wz, rfl, hk, rfl, HR⟩ := hrel
    have hA4 := HR.out.other HA4.out (by simp)
    by_cases hlt : k < d.nums.length
    · have hi1 : (k : Int) < (d.nums.length : Int) := by omega
      obtain ⟨-, h2, -, -⟩ := HT.out.keep HR.out
      obtain ⟨g, hp, hg, hr⟩ : ∃ g, d.np = some ⟨g, 0, none⟩ ∧ B ≤ g ∧ IntRow wz g d.nums.length := by
        rcases h2 with h2 | h2
        · omega
        · exact h2
      obtain ⟨⟨y, hy⟩, hf⟩ := hr k hlt
      rw [hp] at hA4
      have HR2 := Lib.hid (fun u => HR.out.trans (SpR.set hy hg u))
      clear hr h2 hp
      go_wp2_with fail
      go_roundw
      case rel => exact ⟨k + 1, _, rfl, by omega, by go_num, HR2.out _⟩
      case measure => simp [intOf]; omega
    · have hi1 : ¬ (k : Int) < (d.nums.length : Int) := by omega
      have hA5 := HR.out.other HA5.out (by simp)
      go_wp2_with fail
      clear hA5 hA4
      go_loopw [3] (fun i wr => ∃ (k : Nat) (wz : World), wz = wr ∧ k ≤ d.n ∧ i = .int .i64 k ∧ Hid (SpR B W wz)) (fun i _ => d.n - (intOf i).toNat)
      case atStart => exact ⟨0, wz, rfl, Nat.zero_le _, rfl, HR⟩
      case round =>
        obtain ⟨k, wz, rfl, hk, rfl, HR⟩ := hrel
        have hA5 := HR.out.other HA5.out (by simp)
        by_cases hlt : k < d.n
        · have hi1 : (k : Int) < (d.n : Int) := by omega
          obtain ⟨-, -, h3, h4⟩ := HT.out.keep HR.out
          obtain ⟨g, hp, hg, hr⟩ : ∃ g, d.kp = some ⟨g, 0, none⟩ ∧ B ≤ g ∧ ∀ i, i < d.n → SpNode wz g (i * 6) (kids i).d := by
            rcases h3 with h3 | h3
            · omega
            · exact h3
          have N := hr k hlt
          obtain ⟨y0, c0⟩ := N.c0
          obtain ⟨y1, c1⟩ := N.c1
          obtain ⟨y2, c2⟩ := N.c2
          have c3 := N.c3
          have c4 := N.c4
          have c5 := N.c5
          have HN := Lib.hid N
          have HP := Lib.hid hp
          rw [hp] at hA5
          have HC := Lib.hid (IH.out k y0 y1 y2 wz (Nat.le_trans HBW.out HR.out.below.size) (h4 k hlt))
          clear hr h3 h4 hp N
          go_wp2_with fail
          refine HC.out.mono ?_
          rintro e w2 ⟨⟨v, rfl⟩, hR2⟩
          have HR2 := Lib.hid (HR.out.trans hR2)
          have hA5 := HR2.out.other HA5.out (by simp)
          rw [HP.out] at hA5
          obtain ⟨x0, b0⟩ := hR2.int HN.out.c0
          have hf0 := hR2.frozen _ _ c0 HN.out.fr
          have HR3 := Lib.hid (fun u => HR2.out.trans (SpR.set b0 hg u))
          clear c0 c1 c2 c3 c4 c5 hR2
          go_wp2_with fail
          go_roundw
          case rel => exact ⟨k + 1, _, rfl, by omega, by go_num, HR3.out _⟩
          case measure => simp [intOf]; omega
        · have hi1 : ¬ (k : Int) < (d.n : Int) := by omega
          go_wp2_with fail
          go_end0
          exact ⟨⟨_, rfl⟩, HS.out.trans HR.out⟩
theorem spoil_any (B : Nat) : ∀ (t : TV) (a b c : Int) (w : World), B ≤ w.heap.size → Sp B w t → Calls Try.prog 25 #[.agg #[.int .i64 a, .int .i64 b, .int .i64 c, .string t.d.name, .slice t.d.np t.d.nums.length t.d.nc, .slice t.d.kp t.d.n t.d.kc]] w fun e w' => (∃ v, e = .returned v) ∧ SpR B w w'
  | .nil, _, _, _, _, _, h => False.elim h
  | .mk d kids, a, b, c, w, hB, h => spoil_step d kids B (fun i a b c w hB h => spoil_any B (kids i) a b c w hB h) a b c w hB h
end Go.Proofs.Ytjehgcmcphgofaa
