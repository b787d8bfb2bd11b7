/- slices.Grow of nil and slices.Concat of three lists of numbers. No condition beyond what each says. -/
import Derived.Test.YtfifjokmhhakkaaDoorAid
import Derived.Test.YtfifjokmhhakkaaDoorApp
import Derived.Lib.AppendZeros
import Derived.Lib.SliceRun
namespace Go.Proofs.YtfifjokmhhakkaaDoor
open Go.RowKit Go.Shelf
set_option linter.unusedVariables false
set_option linter.unusedSimpArgs false

/-- slices.Grow(nil, n): an own row without elements -/
theorem Grow_nil (n : Nat) (hn : n ≤ 1000000) (w : World) :
    Calls Tryd.prog 52 #[.slice none 0 0, .int .i64 n] w fun e w' => (∃ v, e = .returned v ∧ w'.ownsRow w.heap.size 3 1 v 0 []) ∧ Below w.heap.size w w' := by
  by_cases h0 : n = 0
  · subst h0
    go_enter Tryd.func52, Tryd.ntmps52
    go_wp2_with fail
    go_ret
    exact ⟨⟨_, rfl, World.ownsRow_nil _ _ _ _⟩, Below.refl _ _⟩
  · obtain ⟨i, hi, hz, hsize, hbytes⟩ := info_parts info_int
    have h1 : ¬ ((n : Int) < 0) := by omega
    have h2 : (0 : Int) < (n : Int) := by omega
    have hrz : ∀ ty, (Builtin.append_ #[22, 3] ty #[.slice none 0 0, .int .i64 n]).run Tryd.prog w = .ok (.slice (some ⟨w.heap.size, 0, none⟩) n (grownCap w n 0 3)) (w.drew.alloc (.cells (Builtin.zeroCells (Value.int .i64 0).cells n ++ Builtin.zeroCells (Value.int .i64 0).cells (grownCap w n 0 3 - n)) 3)) := by
      intro ty
      exact Lib.run_append_nil_zeros w 22 3 ty 3 i _ .i64 .i64 Tryd.underlying22 Tryd.underlying3 hi hz n (by omega) (by omega) (by omega) (by rw [hbytes]; omega)
    have hG : n ≤ grownCap w n 0 3 := grownCap_ge w _ _ _
    have hG2 : grownCap w n 0 3 ≤ maxLen := grownCap_le_maxLen w n 0 3 (by unfold maxLen; omega)
    obtain ⟨G, hGe⟩ : ∃ G, grownCap w n 0 3 = G := ⟨_, rfl⟩
    rw [hGe] at hrz hG hG2
    have hG63 : G ≤ 9223372036854775807 := by unfold maxLen at hG2; omega
    clear hGe hi hz hsize hbytes
    go_enter Tryd.func52, Tryd.ntmps52
    go_wp2_with (at_builtin; refine Lib.wpList_append_run _ rfl _ _ _ _ rfl _ _ rfl rfl _ _ (hrz _) ?_)
    all_goals go_ret
    refine ⟨⟨_, rfl, rfl, .inr ⟨w.heap.size, G, _, rfl, Nat.le_refl _, heap_alloc_new _ _, Nat.zero_le _, hG2, ?_, by simp⟩⟩, ((Below.refl _ w).drew).alloc (Nat.le_refl _) _⟩
    rw [Array.size_append, size_zeroCells, size_zeroCells]
    show n * 1 + (G - n) * 1 = G * 1
    omega

/-- a slice's bounds -/
structure Bds (q : Option Addr) (n cap : Nat) : Prop where
  le : n ≤ cap
  big : cap ≤ 9223372036854775807
  nil : q = none → cap = 0
theorem row_full {w : World} {B : Nat} {e : TypeId} {v : Value} {n : Nat} {xs : List Value} (h : w.ownsRow B e 1 v n xs) : ∃ p c, v = .slice p xs.length c ∧ New B w p e xs ∧ Bds p xs.length c := by
  obtain ⟨p, c, rfl, hn⟩ := row_new h
  refine ⟨p, c, rfl, hn, ?_⟩
  obtain ⟨h1, h2⟩ := h
  rcases h2 with ⟨hv, h0⟩ | ⟨g, cap, cur, hv, hb, hg, hle, hm, -, ht⟩
  · injection hv with a b c'
    subst a c'
    exact ⟨by omega, by omega, fun _ => rfl⟩
  · injection hv with a b c'
    subst a c'
    exact ⟨by omega, by unfold maxLen at hm; omega, fun h => by cases h⟩
/-- a call that returns a new list of numbers, n of them -/
def ListRet (B : Nat) (L : List Int) (n : Nat) (w : World) (e : Ending) (w' : World) : Prop :=
  (∃ q cap, e = .returned (.slice q n cap) ∧ New B w' q 3 (L.map (.int .i64)) ∧ Bds q n cap) ∧ Below w.heap.size w w'
theorem below_append0 {w a b : World} {n : Nat} {v : Value} {xs : List Value} (h : Below w.heap.size w a) (ho : a.ownsRow w.heap.size 3 1 v n xs) (hg : a.grownBy b v.ownBlock) : Below w.heap.size w b :=
  h.grown hg h.size fun j hj => by
    obtain ⟨-, h2⟩ := ho
    rcases h2 with ⟨rfl, -⟩ | ⟨g, cap, cur, rfl, h3, -⟩
    · cases hj
    · cases hj
      exact h3
set_option maxRecDepth 100000 in
set_option maxHeartbeats 2000000 in
/-- slices.Concat of three lists -/
theorem Concat3 (b : Nat) (p0 p1 p2 : Option Addr) (c0 c1 c2 : Nat) (xs ys zs : List Int) (hl : xs.length + ys.length + zs.length ≤ 1000000) (w : World) (h0 : Ints w p0 xs) (h1 : Ints w p1 ys) (h2 : Ints w p2 zs)
    (k0 : w.cell? ⟨b, 0, none⟩ = some (.slice p0 xs.length c0)) (k1 : w.cell? ⟨b, 1, none⟩ = some (.slice p1 ys.length c1)) (k2 : w.cell? ⟨b, 2, none⟩ = some (.slice p2 zs.length c2)) (hb : b < w.heap.size) :
    Calls Tryd.prog 42 #[.slice (some ⟨b, 0, none⟩) 3 3] w (ListRet w.heap.size (xs ++ ys ++ zs) (xs.length + ys.length + zs.length) w) := by
  have n0 : (0 : Int) ≤ xs.length := by omega
  have n1 : (0 : Int) ≤ ys.length := by omega
  have n2 : (0 : Int) ≤ zs.length := by omega
  have hG : Hid (Calls Tryd.prog 52 #[.slice none 0 0, .int .i64 ((xs.length : Int) + (ys.length : Int) + (zs.length : Int))] w fun e w' => (∃ v, e = .returned v ∧ w'.ownsRow w.heap.size 3 1 v 0 []) ∧ Below w.heap.size w w') := by
    have := Grow_nil (xs.length + ys.length + zs.length) hl w
    rwa [Int.natCast_add, Int.natCast_add] at this
  go_enter Tryd.func42, Tryd.ntmps42
  go_wp2_with fail
  refine wp_loop_rounds 4 ?_
  rw [rounds_succ]
  go_wp2_with fail
  rw [rounds_succ]
  go_wp2_with fail
  rw [rounds_succ]
  go_wp2_with fail
  rw [rounds_succ]
  go_wp2_with fail
  refine hG.out.mono ?_
  rintro e1 w1 ⟨⟨v1, rfl, o1⟩, hb1⟩
  have k0 := (hb1.cell (p := ⟨b, 0, none⟩) hb).trans k0
  clear hG
  go_wp2_with fail
  refine wp_loop_rounds 4 ?_
  rw [rounds_succ]
  go_wp2_with (at_builtin; refine append_ints rfl (.tmp 31) (.tmp 32) rfl w.heap.size v1 0 _ rfl o1 p0 c0 xs rfl (h0.keep hb1).1 (by omega) hb1.size ?_; intro v2 w2 o2 g2)
  have hb2 := below_append0 hb1 o1 g2
  have k1 := (hb2.cell (p := ⟨b, 1, none⟩) hb).trans k1
  rw [rounds_succ]
  go_wp2_with (at_builtin; refine append_ints rfl (.tmp 31) (.tmp 32) rfl w.heap.size v2 (0 + xs.length) _ rfl o2 p1 c1 ys rfl (h1.keep hb2).1 (by omega) hb2.size ?_; intro v3 w3 o3 g3)
  have hb3 := below_append0 hb2 o2 g3
  have k2 := (hb3.cell (p := ⟨b, 2, none⟩) hb).trans k2
  rw [rounds_succ]
  go_wp2_with (at_builtin; refine append_ints rfl (.tmp 31) (.tmp 32) rfl w.heap.size v3 (0 + xs.length + ys.length) _ rfl o3 p2 c2 zs rfl (h2.keep hb3).1 (by omega) hb3.size ?_; intro v4 w4 o4 g4)
  have hb4 := below_append0 hb3 o3 g4
  rw [rounds_succ]
  go_wp2_with fail
  go_ret
  rw [List.nil_append, ← List.map_append, ← List.map_append, Nat.zero_add] at o4
  obtain ⟨q, cap, rfl, hn, hbd⟩ := row_full o4
  have hlen : (((xs ++ ys ++ zs).map (Value.int .i64)).length) = xs.length + ys.length + zs.length := by rw [List.length_map, List.length_append, List.length_append]
  rw [hlen] at hbd ⊢
  exact ⟨⟨q, cap, rfl, hn, hbd⟩, hb4⟩
end Go.Proofs.YtfifjokmhhakkaaDoor
