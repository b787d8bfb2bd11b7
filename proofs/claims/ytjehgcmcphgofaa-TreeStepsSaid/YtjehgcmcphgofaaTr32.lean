/- awake: the worlds that it comes through. No condition beyond what each says. -/
import Derived.Test.YtjehgcmcphgofaaTr31
namespace Go.Proofs.Ytjehgcmcphgofaa
open Go.RowKit Go.Shelf
set_option linter.unusedVariables false
set_option linter.unusedSimpArgs false
attribute [local go_sem] Oper.semAt_some

theorem TVal_two (a : Nat) : cellsT (twoT a).d = [.int .i64 1, .int .i64 0, .int .i64 (-1), .string ⟨#[]⟩, .slice (some ⟨a, 0, none⟩) 1 1, .slice none 0 0] := rfl
theorem TVal_cat (b : Nat) : cellsT (catT b).d = [.int .i64 4, .int .i64 6, .int .i64 (-1), .string ⟨#[]⟩, .slice none 0 0, .slice (some ⟨b, 0, none⟩) 2 2] := rfl

/-- behind the first box, the number's row, the literal's box -/
theorem aw_first (w : World) : ∃ W R T, R = w.heap.size + 1 ∧ T = R + 1 ∧
    ((w.alloc (.cells #[.bool false] 4)).alloc (.cells #[.int .i64 2] 2)).alloc (.cells #[.int .i64 1, .int .i64 0, .int .i64 (-1), .string ⟨#[]⟩, .slice (some ⟨R, 0, none⟩) 1 1, .slice none 0 0] 25) = W ∧
    Own W w.heap.size 4 [.bool false] ∧ Own W R 2 [.int .i64 2] ∧ Own W T 25 (cellsT (twoT R).d) ∧ Below w.heap.size w W ∧ W.heap.size = w.heap.size + 3 := by
  refine ⟨_, _, _, rfl, rfl, rfl, ?_, ?_, ?_, below_t (below_t (below_alloc _ _) (below_alloc _ _)) (below_alloc _ _), by simp⟩
  · exact ((Own.made w _ [.bool false] _ rfl).keep (below_alloc _ _) (by simp)).keep (below_alloc _ _) (by simp; omega)
  · exact (Own.made _ _ [.int .i64 2] _ (by simp)).keep (below_alloc _ _) (by simp)
  · exact Own.made _ _ (cellsT (twoT (w.heap.size + 1)).d) _ (by simp)
/-- what awake makes: trees in blocks behind its first box -/
structure AwTrees (X R : Nat) (b0 b2 b4 : Nat) (W : World) : Prop where
  take : TreeS (fun k => X < k) W (takeT R b0 b2)
  bad : TreeS (fun k => X < k) W (badT R b0 b4)
theorem leaf_TreeS (S : Nat → Prop) (W : World) (k f a : Int) (s : ByteArray) (kids : Nat → TV) : TreeS S W (.mk ⟨k, f, a, s, none, 0, [], none, 0, 0⟩ kids) :=
  ⟨.inl rfl, ⟨by simp, by simp, by simp⟩, .inl rfl, fun i hi => (Nat.not_lt_zero _ hi).elim⟩
theorem two_kids {S : Nat → Prop} {W : World} {d : TD} {p q : TV} {b : Nat} (hn : d.nums = []) (h2 : d.n = 2) (hk : d.kp = some ⟨b, 0, none⟩) (hS : S b) (ho : Own W b 25 (cellsT p.d ++ cellsT q.d)) (hp : TreeS S W p) (hq : TreeS S W q) :
    TreeS S W (.mk d fun i => if i = 0 then p else q) := by
  refine ⟨.inl hn, ⟨by rw [hn]; simp, by rw [hn]; simp, by omega⟩, .inr ⟨b, hk, hS, ?_⟩, fun i hi => ?_⟩
  · rw [h2]
    exact ho
  · show TreeS S W (if i = 0 then p else q)
    split
    · exact hp
    · exact hq
/-- the six blocks of the three other trees -/
theorem aw_second (X R T : Nat) (w : World) (hX : X < R) (hRT : R < T) (hT : T < w.heap.size) (oR : Own w R 2 [.int .i64 2]) (oT : Own w T 25 (cellsT (twoT R).d)) :
    ∃ V W B b1 b2 b3 b4 b5, B = w.heap.size ∧ b1 = B + 1 ∧ b2 = b1 + 1 ∧ b3 = b2 + 1 ∧ b4 = b3 + 1 ∧ b5 = b4 + 1 ∧
    (((w.alloc (.cells #[.int .i64 2, .int .i64 0, .int .i64 (-1), .string ⟨#[120]⟩, .slice none 0 0, .slice none 0 0, .int .i64 2, .int .i64 0, .int .i64 (-1), .string ⟨#[121]⟩, .slice none 0 0, .slice none 0 0] 25)).alloc
      (.cells #[.int .i64 4, .int .i64 6, .int .i64 (-1), .string ⟨#[]⟩, .slice none 0 0, .slice (some ⟨B, 0, none⟩) 2 2] 25)).alloc
      (.cells #[.int .i64 1, .int .i64 0, .int .i64 (-1), .string ⟨#[]⟩, .slice (some ⟨R, 0, none⟩) 1 1, .slice none 0 0, .int .i64 4, .int .i64 6, .int .i64 (-1), .string ⟨#[]⟩, .slice none 0 0, .slice (some ⟨B, 0, none⟩) 2 2] 25)).alloc
      (.cells #[.int .i64 4, .int .i64 1, .int .i64 (-1), .string ⟨#[]⟩, .slice none 0 0, .slice (some ⟨b2, 0, none⟩) 2 2] 25) = V ∧
    (V.alloc (.cells #[.int .i64 4, .int .i64 6, .int .i64 (-1), .string ⟨#[]⟩, .slice none 0 0, .slice (some ⟨B, 0, none⟩) 2 2, .int .i64 1, .int .i64 0, .int .i64 (-1), .string ⟨#[]⟩, .slice (some ⟨R, 0, none⟩) 1 1, .slice none 0 0] 25)).alloc
      (.cells #[.int .i64 4, .int .i64 1, .int .i64 (-1), .string ⟨#[]⟩, .slice none 0 0, .slice (some ⟨b4, 0, none⟩) 2 2] 25) = W ∧
    Own V b1 25 (cellsT (catT B).d) ∧ Own V T 25 (cellsT (twoT R).d) ∧ V.heap.size = b4 ∧
    AwTrees X R B b2 b4 W ∧ Own W b1 25 (cellsT (catT B).d) ∧ Own W b3 25 (cellsT (takeT R B b2).d) ∧ Own W b5 25 (cellsT (badT R B b4).d) ∧ Below w.heap.size w W ∧ W.heap.size = b5 + 1 := by
  obtain ⟨w1, h1⟩ : ∃ w1, w.alloc (.cells #[.int .i64 2, .int .i64 0, .int .i64 (-1), .string ⟨#[120]⟩, .slice none 0 0, .slice none 0 0, .int .i64 2, .int .i64 0, .int .i64 (-1), .string ⟨#[121]⟩, .slice none 0 0, .slice none 0 0] 25) = w1 := ⟨_, rfl⟩
  obtain ⟨w2, h2⟩ : ∃ w2, w1.alloc (.cells #[.int .i64 4, .int .i64 6, .int .i64 (-1), .string ⟨#[]⟩, .slice none 0 0, .slice (some ⟨w.heap.size, 0, none⟩) 2 2] 25) = w2 := ⟨_, rfl⟩
  obtain ⟨w3, h3⟩ : ∃ w3, w2.alloc (.cells #[.int .i64 1, .int .i64 0, .int .i64 (-1), .string ⟨#[]⟩, .slice (some ⟨R, 0, none⟩) 1 1, .slice none 0 0, .int .i64 4, .int .i64 6, .int .i64 (-1), .string ⟨#[]⟩, .slice none 0 0, .slice (some ⟨w.heap.size, 0, none⟩) 2 2] 25) = w3 := ⟨_, rfl⟩
  obtain ⟨w4, h4⟩ : ∃ w4, w3.alloc (.cells #[.int .i64 4, .int .i64 1, .int .i64 (-1), .string ⟨#[]⟩, .slice none 0 0, .slice (some ⟨w.heap.size + 1 + 1, 0, none⟩) 2 2] 25) = w4 := ⟨_, rfl⟩
  obtain ⟨w5, h5⟩ : ∃ w5, w4.alloc (.cells #[.int .i64 4, .int .i64 6, .int .i64 (-1), .string ⟨#[]⟩, .slice none 0 0, .slice (some ⟨w.heap.size, 0, none⟩) 2 2, .int .i64 1, .int .i64 0, .int .i64 (-1), .string ⟨#[]⟩, .slice (some ⟨R, 0, none⟩) 1 1, .slice none 0 0] 25) = w5 := ⟨_, rfl⟩
  obtain ⟨w6, h6⟩ : ∃ w6, w5.alloc (.cells #[.int .i64 4, .int .i64 1, .int .i64 (-1), .string ⟨#[]⟩, .slice none 0 0, .slice (some ⟨w.heap.size + 1 + 1 + 1 + 1, 0, none⟩) 2 2] 25) = w6 := ⟨_, rfl⟩
  have s1 : w1.heap.size = w.heap.size + 1 := by rw [← h1]; simp
  have s2 : w2.heap.size = w.heap.size + 1 + 1 := by rw [← h2]; simp; omega
  have s3 : w3.heap.size = w.heap.size + 1 + 1 + 1 := by rw [← h3]; simp; omega
  have s4 : w4.heap.size = w.heap.size + 1 + 1 + 1 + 1 := by rw [← h4]; simp; omega
  have s5 : w5.heap.size = w.heap.size + 1 + 1 + 1 + 1 + 1 := by rw [← h5]; simp; omega
  have s6 : w6.heap.size = w.heap.size + 1 + 1 + 1 + 1 + 1 + 1 := by rw [← h6]; simp; omega
  have l1 : Below w.heap.size w w1 := by rw [← h1]; exact below_alloc _ _
  have l2 : Below w1.heap.size w1 w2 := by rw [← h2]; exact below_alloc _ _
  have l3 : Below w2.heap.size w2 w3 := by rw [← h3]; exact below_alloc _ _
  have l4 : Below w3.heap.size w3 w4 := by rw [← h4]; exact below_alloc _ _
  have l5 : Below w4.heap.size w4 w5 := by rw [← h5]; exact below_alloc _ _
  have l6 : Below w5.heap.size w5 w6 := by rw [← h6]; exact below_alloc _ _
  have k1 : Own w1 w.heap.size 25 (cellsT xT.d ++ cellsT yT.d) := by rw [← h1]; exact Own.made w _ (cellsT xT.d ++ cellsT yT.d) _ rfl
  have k2 : Own w2 (w.heap.size + 1) 25 (cellsT (catT w.heap.size).d) := by rw [← h2]; exact Own.made w1 _ (cellsT (catT w.heap.size).d) _ s1.symm
  have k3 : Own w3 (w.heap.size + 1 + 1) 25 (cellsT (twoT R).d ++ cellsT (catT w.heap.size).d) := by rw [← h3]; exact Own.made w2 _ (cellsT (twoT R).d ++ cellsT (catT w.heap.size).d) _ s2.symm
  have k4 : Own w4 (w.heap.size + 1 + 1 + 1) 25 (cellsT (takeT R w.heap.size (w.heap.size + 1 + 1)).d) := by rw [← h4]; exact Own.made w3 _ (cellsT (takeT R w.heap.size (w.heap.size + 1 + 1)).d) _ s3.symm
  have k5 : Own w5 (w.heap.size + 1 + 1 + 1 + 1) 25 (cellsT (catT w.heap.size).d ++ cellsT (twoT R).d) := by rw [← h5]; exact Own.made w4 _ (cellsT (catT w.heap.size).d ++ cellsT (twoT R).d) _ s4.symm
  have k6 : Own w6 (w.heap.size + 1 + 1 + 1 + 1 + 1) 25 (cellsT (badT R w.heap.size (w.heap.size + 1 + 1 + 1 + 1)).d) := by rw [← h6]; exact Own.made w5 _ (cellsT (badT R w.heap.size (w.heap.size + 1 + 1 + 1 + 1)).d) _ s5.symm
  have m5 := l6
  have m4 := below_t l5 m5
  have m3 := below_t l4 m4
  have m2 := below_t l3 m3
  have m1 := below_t l2 m2
  have m0 := below_t l1 m1
  have q1 := k1.keep m1 k1.lt
  have q2 := k2.keep m2 k2.lt
  have q3 := k3.keep m3 k3.lt
  have q4 := k4.keep m4 k4.lt
  have q5 := k5.keep m5 k5.lt
  have qR := oR.keep m0 oR.lt
  have htwo : TreeS (fun k => X < k) w6 (twoT R) := ⟨.inr ⟨R, rfl, hX, qR⟩, ⟨by intro x hx; simp [TV.d] at hx; subst hx; unfold I64; omega, by show ([2] : List Int).length ≤ _; simp, by show 0 ≤ _; simp⟩, .inl rfl, fun i hi => (Nat.not_lt_zero _ hi).elim⟩
  have hcat : TreeS (fun k => X < k) w6 (catT w.heap.size) := two_kids rfl rfl rfl (by omega) q1 (leaf_TreeS _ _ _ _ _ _ _) (leaf_TreeS _ _ _ _ _ _ _)
  have z1 := (k2.keep l3 k2.lt).keep l4 (k2.keep l3 k2.lt).lt
  have zT := oT.keep (below_t (below_t (below_t l1 l2) l3) l4) oT.lt
  refine ⟨w4, w6, w.heap.size, _, _, _, _, _, rfl, rfl, rfl, rfl, rfl, rfl, ?_, ?_, z1, zT, s4, ⟨two_kids rfl rfl rfl (by omega) q3 htwo hcat, two_kids rfl rfl rfl (by omega) q5 hcat htwo⟩, q2, q4, k6, m0, s6⟩
  · rw [h1, h2, h3, h4]
  · rw [h5, h6]
theorem aw_right (R B b2 : Nat) (w : World) (h : TreeIn w (takeT R B b2)) : Calls Try.prog 10 #[.agg #[.int .i64 4, .int .i64 1, .int .i64 (-1), .string ⟨#[]⟩, .slice none 0 0, .slice (some ⟨b2, 0, none⟩) 2 2]] w fun e w' => e = .returned (.bool true) ∧ Below w.heap.size w w' := Right_any (takeT R B b2) w h true (takeT_right R B b2)
theorem aw_bad (R B b4 : Nat) (w : World) (h : TreeIn w (badT R B b4)) : Calls Try.prog 10 #[.agg #[.int .i64 4, .int .i64 1, .int .i64 (-1), .string ⟨#[]⟩, .slice none 0 0, .slice (some ⟨b4, 0, none⟩) 2 2]] w fun e w' => e = .returned (.bool false) ∧ Below w.heap.size w w' := Right_any (badT R B b4) w h false (badT_right R B b4)
theorem aw_zero (w : World) : Calls Try.prog 10 #[.agg #[.int .i64 0, .int .i64 0, .int .i64 0, .string ⟨#[]⟩, .slice none 0 0, .slice none 0 0]] w fun e w' => e = .returned (.bool false) ∧ Below w.heap.size w w' := Right_any zT w (leaf_TreeS (fun _ => True) w 0 0 0 ⟨#[]⟩ _).tree false zT_right
theorem aw_size (R B b2 : Nat) (w : World) (h : TreeIn w (takeT R B b2)) : Calls Try.prog 12 #[.agg #[.int .i64 4, .int .i64 1, .int .i64 (-1), .string ⟨#[]⟩, .slice none 0 0, .slice (some ⟨b2, 0, none⟩) 2 2]] w fun e w' => e = .returned (.int .i64 5) ∧ Below w.heap.size w w' := Size_any (takeT R B b2) w (by rw [takeT_size]; omega) h
theorem aw_depth (R B b2 : Nat) (w : World) (h : TreeIn w (takeT R B b2)) : Calls Try.prog 14 #[.agg #[.int .i64 4, .int .i64 1, .int .i64 (-1), .string ⟨#[]⟩, .slice none 0 0, .slice (some ⟨b2, 0, none⟩) 2 2]] w fun e w' => e = .returned (.int .i64 3) ∧ Below w.heap.size w w' := Depth_any (takeT R B b2) w (by rw [takeT_size]; omega) h
theorem aw_same (R B b2 : Nat) (w : World) (h : TreeIn w (takeT R B b2)) : Calls Try.prog 16 #[.agg #[.int .i64 4, .int .i64 1, .int .i64 (-1), .string ⟨#[]⟩, .slice none 0 0, .slice (some ⟨b2, 0, none⟩) 2 2], .agg #[.int .i64 4, .int .i64 1, .int .i64 (-1), .string ⟨#[]⟩, .slice none 0 0, .slice (some ⟨b2, 0, none⟩) 2 2]] w fun e w' => e = .returned (.bool true) ∧ Below w.heap.size w w' := Same_any (takeT R B b2) (takeT R B b2) w true (sameT_refl _) h h
theorem aw_other (R B b2 : Nat) (w : World) (h : TreeIn w (takeT R B b2)) (h' : TreeIn w (catT B)) : Calls Try.prog 16 #[.agg #[.int .i64 4, .int .i64 1, .int .i64 (-1), .string ⟨#[]⟩, .slice none 0 0, .slice (some ⟨b2, 0, none⟩) 2 2], .agg #[.int .i64 4, .int .i64 6, .int .i64 (-1), .string ⟨#[]⟩, .slice none 0 0, .slice (some ⟨B, 0, none⟩) 2 2]] w fun e w' => e = .returned (.bool false) ∧ Below w.heap.size w w' := Same_any (takeT R B b2) (catT B) w false (takeT_cat R B b2) h h'
theorem aw_copy (R B b2 : Nat) (w : World) (h : TreeIn w (takeT R B b2)) : Calls Try.prog 24 #[.agg #[.int .i64 4, .int .i64 1, .int .i64 (-1), .string ⟨#[]⟩, .slice none 0 0, .slice (some ⟨b2, 0, none⟩) 2 2]] w (CopyRet w (takeT R B b2)) := Copy_any (takeT R B b2) w (by rw [takeT_size]; omega) (by rw [takeT_nums]; omega) h
theorem aw_rsame (R B b2 : Nat) (t : TV) (w : World) (hs : sameT t (takeT R B b2) = true) (h : TreeIn w t) (h' : TreeIn w (takeT R B b2)) : Calls Try.prog 17 #[.agg #[.int .i64 t.d.kind, .int .i64 t.d.fn, .int .i64 t.d.axis, .string t.d.name, .slice t.d.np t.d.nums.length t.d.nc, .slice t.d.kp t.d.n t.d.kc], .agg #[.int .i64 4, .int .i64 1, .int .i64 (-1), .string ⟨#[]⟩, .slice none 0 0, .slice (some ⟨b2, 0, none⟩) 2 2]] w fun e w' => e = .returned (.bool true) ∧ Below w.heap.size w w' := RSame_any t (takeT R B b2) w true hs h h'
theorem aw_names (R B b2 : Nat) (w : World) (h : TreeIn w (takeT R B b2)) : Calls Try.prog 21 #[.agg #[.int .i64 4, .int .i64 1, .int .i64 (-1), .string ⟨#[]⟩, .slice none 0 0, .slice (some ⟨b2, 0, none⟩) 2 2]] w fun e w' => ∃ g c, e = .returned (.slice (some ⟨g, 0, none⟩) 2 c) ∧ w.heap.size ≤ g ∧ Own w' g 9 [.string ⟨#[121]⟩, .string ⟨#[120]⟩] ∧ Below w.heap.size w w' := by
  refine (Names_any (takeT R B b2) (by rw [takeT_size]; omega) w h).mono fun e w' h => ?_
  obtain ⟨p, c, he, -, hn, hb⟩ := h
  rw [takeT_names] at he hn
  rcases hn with hn | ⟨g, rfl, hg, ho⟩
  · cases hn
  · exact ⟨g, c, he, hg, ho, hb⟩
/-- what holds in awake's last statement -/
structure AwS (w : World) (X b6 D gN : Nat) (W4 z : World) : Prop where
  mid : ∀ k, X < k → k < W4.heap.size → z.heap[k]? = W4.heap[k]?
  size : W4.heap.size ≤ z.heap.size
  n : Own z b6 3 [.int .i64 5]
  names : Own z gN 9 [.string ⟨#[121]⟩, .string ⟨#[120]⟩]
  dfr : z.heap[D]? = some (.deferred (some []))
  res : ∃ u, Own z X 4 [u]
  low : Below w.heap.size w z
  hX : w.heap.size ≤ X ∧ X < b6 ∧ X < D ∧ X < gN
theorem AwS.keep {w : World} {X b6 D gN : Nat} {W4 : World} : Keeps (AwS w X b6 D gN W4) := fun a b h hb => by
  obtain ⟨u, hu⟩ := h.res
  exact ⟨fun k h1 h2 => (hb.block k (Nat.lt_of_lt_of_le h2 h.size)).trans (h.mid k h1 h2), Nat.le_trans h.size hb.size, h.n.keep hb h.n.lt, h.names.keep hb h.names.lt, (hb.block D (Array.getElem?_eq_some_iff.1 h.dfr).1).trans h.dfr, ⟨u, hu.keep hb hu.lt⟩, below_t h.low hb, h.hX⟩
theorem AwS.set {w : World} {X b6 D gN : Nat} {W4 z : World} (h : AwS w X b6 D gN W4 z) (v : Value) : AwS w X b6 D gN W4 (z.setCell ⟨X, 0, none⟩ v) := by
  obtain ⟨u, hu⟩ := h.res
  have hX := h.hX
  have hs : (z.setCell ⟨X, 0, none⟩ v).heap.size = z.heap.size := by unfold World.setCell; simp only [Array.size_modify]
  have hc : ∀ k, k ≠ X → (z.setCell ⟨X, 0, none⟩ v).heap[k]? = z.heap[k]? := fun k hk => Below.heap_setCell z ⟨X, 0, none⟩ v k hk
  exact ⟨fun k h1 h2 => (hc k (by omega)).trans (h.mid k h1 h2), by rw [hs]; exact h.size, h.n.block (hc _ (by omega)), h.names.block (hc _ (by omega)), (hc D (by omega)).trans h.dfr, ⟨v, hu.set (i := 0) (by simp) v⟩, h.low.setCell (p := ⟨X, 0, none⟩) hX.1 v, hX⟩
theorem AwS.own {w : World} {X b6 D gN : Nat} {W4 z : World} (h : AwS w X b6 D gN W4 z) {g : Nat} {e : TypeId} {vs : List Value} (ho : Own W4 g e vs) (hg : X < g) : Own z g e vs := ho.block (h.mid g hg ho.lt)
theorem AwS.tree {w : World} {X b6 D gN : Nat} {W4 z : World} (h : AwS w X b6 D gN W4 z) {t : TV} (ht : TreeS (fun k => X < k) W4 t) : TreeIn z t := (ht.keep fun k h1 h2 => h.mid k h1 h2).tree
end Go.Proofs.Ytjehgcmcphgofaa
