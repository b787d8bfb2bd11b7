/- ShapeInverts, walked. No condition. -/
import Derived.Test.YtfifjokmhhakkaaDoorAwake02b
namespace Go.Proofs.YtfifjokmhhakkaaDoor
open Go.RowKit Go.Shelf
set_option linter.unusedVariables false
set_option linter.unusedSimpArgs false

theorem prodL_one (a b : List Int) : ∀ acc : Int, acc ≤ 65536 → prodL (a ++ 1 :: b) acc = prodL (a ++ b) acc := by
  induction a with
  | nil =>
    intro acc h
    show (if 65536 < acc * 1 then none else prodL b (acc * 1)) = prodL b acc
    rw [Int.mul_one, if_neg (by omega)]
  | cons x a ih =>
    intro acc h
    show (if 65536 < acc * x then none else prodL (a ++ 1 :: b) (acc * x)) = if 65536 < acc * x then none else prodL (a ++ b) (acc * x)
    split
    · rfl
    · exact ih _ (by omega)
theorem prodR_one (a b : List Int) : prodR (a ++ 1 :: b) = prodR (a ++ b) := by
  unfold prodR
  rw [prodL_one a b 1 (by omega)]
  simp [neg, big]
theorem cells_ins {s : List Int} {k : Nat} (h : s.length < 16) (hk : k ≤ s.length) : cellsS (s.take k ++ [1] ++ s.drop k) = cellsS s := by
  have e1 : s.take k ++ [1] ++ s.drop k = s.take k ++ 1 :: s.drop k := by simp
  have e2 : prodR (s.take k ++ 1 :: s.drop k) = prodR s := by rw [prodR_one, List.take_append_drop]
  have e3 : (s.take k ++ 1 :: s.drop k).any neg = s.any neg := by
    have : s.any neg = (s.take k ++ s.drop k).any neg := by rw [List.take_append_drop]
    rw [this, List.any_append, List.any_append, List.any_cons]
    simp [neg]
  have e4 : (s.take k ++ 1 :: s.drop k).length = s.length + 1 := by simp; omega
  rw [e1]
  unfold cellsS shapeS
  rw [e2, e3, e4, if_neg (show ¬ 16 < s.length by omega), if_neg (show ¬ 16 < s.length + 1 by omega)]
theorem ins_rem {s : List Int} {k : Nat} {x : Int} (hk : k ≤ s.length) : (s.take k ++ [x] ++ s.drop k).take k ++ [] ++ (s.take k ++ [x] ++ s.drop k).drop (k + 1) = s := by
  have hl : (s.take k).length = k := by rw [List.length_take]; omega
  rw [List.append_nil, List.append_assoc, List.take_append_of_le_length (by omega), List.take_of_length_le (by omega), List.drop_append, hl, Nat.add_sub_cancel_left, List.drop_eq_nil_of_le (by omega)]
  simp
theorem ins_len {s : List Int} {k : Nat} {x : Int} (hk : k ≤ s.length) : (s.take k ++ [x] ++ s.drop k).length = k + 1 + (s.length - k) := by simp; omega
theorem ins_i64 {s : List Int} {k : Nat} {x : Int} (hs : ∀ y ∈ s, I64 y) (hx : I64 x) : ∀ y ∈ s.take k ++ [x] ++ s.drop k, I64 y := fun y hy => by
  rw [List.append_assoc] at hy
  rcases List.mem_append.1 hy with hy | hy
  · exact hs y (List.mem_of_mem_take hy)
  · rcases List.mem_append.1 hy with hy | hy
    · rw [List.mem_singleton] at hy; subst hy; exact hx
    · exact hs y (List.mem_of_mem_drop hy)
theorem ShapeCells_is (s : List Int) (m : Int) (hm : cellsS s = m) (n : Nat) (hn : s.length = n) (a : Option Addr) (c : Nat) (w : World) (h : Ints w a s) :
    Calls Tryd.prog 11 #[.slice a n c] w fun e w' => e = .returned (.int .i64 m) ∧ Below w.heap.size w w' := by
  subst hn hm
  exact (ShapeCells_any a c s w h).mono fun e w' ⟨he, hw⟩ => ⟨he, hw ▸ Below.refl _ _⟩
theorem refEq_true (s : List Int) (n m : Nat) (hn : s.length = n) (hm : s.length = m) (a b : Option Addr) (c d : Nat) (w : World) (h : Ints w a s) (h' : Ints w b s) :
    Calls Tryd.prog 14 #[.slice a n c, .slice b m d] w fun e w' => e = .returned (.bool true) ∧ Below w.heap.size w w' := by
  subst hn hm
  exact RefEqual_is s s true (by simp [eqS]) a b c d w h h'

theorem Insert_is (p : Option Addr) (c : Nat) (xs : List Int) (k n1 : Nat) (L : List Int) (hk : k ≤ xs.length) (hn : k + 1 + (xs.length - k) = n1) (hl : xs.length ≤ 1000) (hb : Bds p xs.length c) (x : Int) (hx : I64 x) (hL : xs.take k ++ [x] ++ xs.drop k = L) (w : World) (h : Ints w p xs) :
    Calls Tryd.prog 20 #[.slice p xs.length c, .int .i64 k, .int .i64 x] w fun e w' => (∃ q cap, e = .returned (.tuple #[.slice q n1 cap, .int .i64 0]) ∧ Ints w' q L ∧ Bds q n1 cap) ∧ Below w.heap.size w w' := by
  subst hn
  refine (Insert_yes p c xs k L hk hl hb x hx hL w h).mono fun e w' hr => edit_ints ?_ ?_ hr
  · rw [← hL]; exact ins_i64 h.i64 hx
  · rw [← hL, ins_len hk]; omega
theorem Remove_is (p : Option Addr) (c : Nat) (xs : List Int) (k n n2 : Nat) (L : List Int) (hn : xs.length = n) (hk : k < n) (hn2 : k + (n - (k + 1)) = n2) (hl : n ≤ 1000) (hb : Bds p n c) (hL : xs.take k ++ [] ++ xs.drop (k + 1) = L) (w : World) (h : Ints w p xs) :
    Calls Tryd.prog 21 #[.slice p n c, .int .i64 k] w fun e w' => (∃ q cap, e = .returned (.tuple #[.slice q n2 cap, .int .i64 0]) ∧ Ints w' q L ∧ Bds q n2 cap) ∧ Below w.heap.size w w' := by
  subst hn hn2
  refine (Remove_yes p c xs k L hk hl hb hL w h).mono fun e w' hr => edit_ints ?_ ?_ hr
  · rw [← hL, List.append_nil]
    intro y hy
    rcases List.mem_append.1 hy with hy | hy
    · exact h.i64 y (List.mem_of_mem_take hy)
    · exact h.i64 y (List.mem_of_mem_drop hy)
  · rw [← hL]; simp; omega

set_option maxRecDepth 100000 in
set_option maxHeartbeats 4000000 in
theorem ShapeInverts_law (p : Option Addr) (c : Nat) (s : List Int) (ax : Int) (w : World) (h : Ints w p s) (hax : 0 ≤ ax ∧ ax ≤ 255) (hbd : Bds p s.length c) :
    Calls Tryd.prog 7 #[.slice p s.length c, .int .u8 ax] w fun e w' => e = .returned (.bool true) ∧ Below w.heap.size w w' := by
  have hsm := h.small
  go_enter Tryd.func7, Tryd.ntmps7
  go_wp2_with fail
  refine (awake02 w).mono ?_
  rintro e1 w1 ⟨rfl, hb⟩
  have h1 := h.keep hb
  by_cases k1 : (300 : Int) < (s.length : Int)
  · have d1 : decide ((300 : Int) < (s.length : Int)) = true := decide_eq_true k1
    go_wp2_with fail
    refine (awake02 w1).mono ?_
    rintro e2 w2 ⟨rfl, hb2⟩
    go_wp2_with fail
    go_ret
    exact ⟨rfl, below_t hb hb2⟩
  have d1 : decide ((300 : Int) < (s.length : Int)) = false := decide_eq_false k1
  have hkn : ax.toNat % (s.length + 1) < s.length + 1 := Nat.mod_lt _ (by omega)
  have hmod : Int.tmod ax ((s.length : Int) + 1) = ((ax.toNat % (s.length + 1) : Nat) : Int) := by
    obtain ⟨a, rfl⟩ : ∃ a : Nat, ax = a := ⟨ax.toNat, by omega⟩
    rfl
  obtain ⟨k, hk⟩ : ∃ k, ax.toNat % (s.length + 1) = k := ⟨_, rfl⟩
  rw [hk] at hkn hmod
  have hk0 : k ≤ s.length := by omega
  have hl3 : s.length ≤ 300 := by omega
  have hne : ((s.length : Int) + 1) ≠ 0 := by omega
  clear hk
  obtain ⟨L, hL⟩ : ∃ L, s.take k ++ [1] ++ s.drop k = L := ⟨_, rfl⟩
  obtain ⟨n1, hn1⟩ : ∃ n1, k + 1 + (s.length - k) = n1 := ⟨_, rfl⟩
  have hLl : Hid (L.length = n1) := by rw [Hid, ← hL, ← hn1]; exact ins_len hk0
  have hRem : Hid (L.take k ++ [] ++ L.drop (k + 1) = s) := by rw [Hid, ← hL]; exact ins_rem hk0
  have hCel : Hid (s.length < 16 → cellsS L = cellsS s) := fun h16 => by rw [← hL]; exact cells_ins h16 hk0
  have HL := Lib.hid hL
  have HN1 := Lib.hid hn1
  have HK := Lib.hid hk0
  clear hL hn1 hkn
  go_wp2_with fail
  refine (Insert_is p c s k n1 L HK.out HN1.out (by omega) hbd 1 (by unfold I64; omega) HL.out w1 h1).mono ?_
  rintro e2 w2 ⟨⟨qa, ca, rfl, ha, hba⟩, hb2⟩
  have h2 := h1.keep hb2
  have hb := below_t hb hb2
  go_wp2_with fail
  refine (Remove_is qa ca L k n1 s.length s hLl.out (by have := HN1.out; omega) (by have := HN1.out; have := HK.out; omega) (by have := HN1.out; omega) hba hRem.out w2 ha).mono ?_
  rintro e3 w3 ⟨⟨qb, cb, rfl, hB, -⟩, hb3⟩
  have h3 := h2.keep hb3
  have ha3 := ha.keep hb3
  have hb := below_t hb hb3
  go_wp2_with fail
  refine (refEq_true s s.length s.length rfl rfl _ _ _ _ _ hB h3).mono ?_
  rintro e4 w4 ⟨rfl, hb4⟩
  have h4 := h3.keep hb4
  have ha4 := ha3.keep hb4
  have hb := below_t hb hb4
  by_cases k2 : (16 : Int) ≤ (s.length : Int)
  · have d2 : decide ((16 : Int) ≤ (s.length : Int)) = true := decide_eq_true k2
    go_wp2_with fail
    go_ret
    exact ⟨rfl, hb⟩
  have d2 : decide ((16 : Int) ≤ (s.length : Int)) = false := decide_eq_false k2
  obtain ⟨m, hm⟩ : ∃ m, cellsS s = m := ⟨_, rfl⟩
  have HM := Lib.hid hm
  have HM2 : Hid (cellsS L = m) := by rw [Hid, hCel.out (by omega)]; exact hm
  clear hm
  go_wp2_with fail
  refine (ShapeCells_is L m HM2.out n1 hLl.out _ _ _ ha4).mono ?_
  rintro e5 w5 ⟨rfl, hb5⟩
  have h5 := h4.keep hb5
  have hb := below_t hb hb5
  go_wp2_with fail
  refine (ShapeCells_is s m HM.out s.length rfl _ _ _ h5).mono ?_
  rintro e6 w6 ⟨rfl, hb6⟩
  have hb := below_t hb hb6
  go_wp2_with fail
  go_ret
  exact ⟨rfl, hb⟩
end Go.Proofs.YtfifjokmhhakkaaDoor
