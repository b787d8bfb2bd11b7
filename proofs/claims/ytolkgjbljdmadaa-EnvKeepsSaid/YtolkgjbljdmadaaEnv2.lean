/- The reference's Get and Same of layer 11. No condition beyond what each says. -/
import Derived.Test.YtolkgjbljdmadaaEnv1
namespace Go.Proofs.Ytolkgjbljdmadaa
open Go.RowKit Go.Shelf
set_option linter.unusedVariables false
set_option linter.unusedSimpArgs false

def BV.arr (b : BV) : Value := .agg #[.slice b.sp b.s.length b.sc, .slice b.dp b.d.length b.dc]

set_option maxHeartbeats 2000000 in
theorem RGet_yes (p : Option Addr) (c : Nat) (bs : List BV) (name : ByteArray) (m : Nat) (hm : m < bs.length) (heq : (bth bs m).name = name) (hbef : ∀ j, j < m → (bth bs j).name ≠ name) (w : World) (h : Binds w p bs) :
    Calls Try.prog 33 #[.slice p bs.length c, .string name] w fun e w' => e = .returned (.tuple #[.agg #[.slice (bth bs m).sp (bth bs m).s.length (bth bs m).sc, .slice (bth bs m).dp (bth bs m).d.length (bth bs m).dc], .bool true]) ∧ Below w.heap.size w w' := by
  have hsm := h.small
  have HO := Own.made w w.heap.size [.slice none 0 0, .slice none 0 0] 47 rfl
  have hB := h.keep (below_alloc w (.cells #[.slice none 0 0, .slice none 0 0] 47))
  have hb := below_alloc w (.cells #[.slice none 0 0, .slice none 0 0] 47)
  obtain ⟨W, hW⟩ : ∃ W, w.alloc (.cells #[.slice none 0 0, .slice none 0 0] 47) = W := ⟨_, rfl⟩
  have HO : Own W w.heap.size 47 [.slice none 0 0, .slice none 0 0] := hW ▸ HO
  rw [hW] at hB hb
  have HW := Lib.hid hW
  have Hbef := Lib.hid hbef
  have Heq := Lib.hid heq
  clear hW hbef heq
  go_enter Try.func33, Try.ntmps33
  go_wp2_with fail
  rw [HW.out]
  go_loop [6] (fun i => ∃ k : Nat, k ≤ m ∧ i = .int .i64 k) (fun i => m - (intOf i).toNat)
  case atStart => exact ⟨0, Nat.zero_le _, rfl⟩
  case round =>
    obtain ⟨k, hk, rfl⟩ := hrel
    have hlt : k < bs.length := by omega
    obtain ⟨g, off, rfl, hg0, c0, c1, c2⟩ := hB.at hlt
    have hki : (k : Int) < (bs.length : Int) := by omega
    by_cases hkm : k < m
    · have hx := name_ne (Hbef.out k hkm)
      obtain ⟨b, hb⟩ : ∃ b, bth bs k = b := ⟨_, rfl⟩
      rw [hb] at c0 c1 c2 hx
      clear hb
      go_wp2_with fail
      go_round
      case rel => exact ⟨k + 1, by omega, by go_num⟩
      case measure => simp [intOf]; omega
    · have hke : k = m := by omega
      subst hke
      have hx := name_eq Heq.out
      obtain ⟨b, hb'⟩ : ∃ b, bth bs k = b := ⟨_, rfl⟩
      rw [hb'] at c0 c1 c2 hx
      have HB := Lib.hid hb'
      have q0 := HO.cell (i := 0) rfl
      have q1 := HO.cell (i := 1) rfl
      have f0 := HO.frozen 0
      have f1 := HO.frozen 1
      clear hb' Heq
      go_wp2_with fail
      refine bodyPost_ret (v := .tuple #[.agg #[.slice b.sp b.s.length b.sc, .slice b.dp b.d.length b.dc], .bool true]) (by simp [results, Try.results33, go_sem, q0, q1, f0, f1]) rfl ⟨by rw [HB.out], ?_⟩
      exact (hb.setCell (p := ⟨w.heap.size, 0, none⟩) (Nat.le_refl _) _).setCell (p := ⟨w.heap.size, 1, none⟩) (Nat.le_refl _) _

set_option maxHeartbeats 2000000 in
theorem RGet_no (p : Option Addr) (c : Nat) (bs : List BV) (name : ByteArray) (hbef : ∀ j, j < bs.length → (bth bs j).name ≠ name) (w : World) (h : Binds w p bs) :
    Calls Try.prog 33 #[.slice p bs.length c, .string name] w fun e w' => e = .returned (.tuple #[.agg #[.slice none 0 0, .slice none 0 0], .bool false]) ∧ Below w.heap.size w w' := by
  have hsm := h.small
  have HO := Own.made w w.heap.size [.slice none 0 0, .slice none 0 0] 47 rfl
  have hB := h.keep (below_alloc w (.cells #[.slice none 0 0, .slice none 0 0] 47))
  have hb := below_alloc w (.cells #[.slice none 0 0, .slice none 0 0] 47)
  obtain ⟨W, hW⟩ : ∃ W, w.alloc (.cells #[.slice none 0 0, .slice none 0 0] 47) = W := ⟨_, rfl⟩
  have HO : Own W w.heap.size 47 [.slice none 0 0, .slice none 0 0] := hW ▸ HO
  rw [hW] at hB hb
  have HW := Lib.hid hW
  have Hbef := Lib.hid hbef
  clear hW hbef
  go_enter Try.func33, Try.ntmps33
  go_wp2_with fail
  rw [HW.out]
  go_loop [6] (fun i => ∃ k : Nat, k ≤ bs.length ∧ i = .int .i64 k) (fun i => bs.length - (intOf i).toNat)
  case atStart => exact ⟨0, Nat.zero_le _, rfl⟩
  case round =>
    obtain ⟨k, hk, rfl⟩ := hrel
    by_cases hlt : k < bs.length
    · obtain ⟨g, off, rfl, hg0, c0, c1, c2⟩ := hB.at hlt
      have hki : (k : Int) < (bs.length : Int) := by omega
      have hx := name_ne (Hbef.out k hlt)
      obtain ⟨b, hb⟩ : ∃ b, bth bs k = b := ⟨_, rfl⟩
      rw [hb] at c0 c1 c2 hx
      clear hb
      go_wp2_with fail
      go_round
      case rel => exact ⟨k + 1, by omega, by go_num⟩
      case measure => simp [intOf]; omega
    · have hki : ¬ (k : Int) < (bs.length : Int) := by omega
      have q0 := HO.cell (i := 0) rfl
      have q1 := HO.cell (i := 1) rfl
      have f0 := HO.frozen 0
      have f1 := HO.frozen 1
      go_wp2_with fail
      refine bodyPost_ret (v := .tuple #[.agg #[.slice none 0 0, .slice none 0 0], .bool false]) (by simp [results, Try.results33, go_sem, q0, q1, f0, f1]) rfl ⟨rfl, ?_⟩
      exact (hb.setCell (p := ⟨w.heap.size, 0, none⟩) (Nat.le_refl _) _).setCell (p := ⟨w.heap.size, 1, none⟩) (Nat.le_refl _) _

/-- the same names, shapes and numbers -/
def SameB (bs cs : List BV) : Prop := bs.length = cs.length ∧ ∀ k, k < bs.length → (bth bs k).name = (bth cs k).name ∧ (bth bs k).s = (bth cs k).s ∧ (bth bs k).d = (bth cs k).d

theorem RefAEqual_yes (p q p' q' : Option Addr) (c f c' f' : Nat) (s d t e : List Int) (hs : s = t) (hd : d = e) (w : World) (h1 : Ints w p s) (h2 : Ints w q d) (h3 : Ints w p' t) (h4 : Ints w q' e) :
    Calls Try.prog 35 #[.agg #[.slice p s.length c, .slice q d.length f], .agg #[.slice p' t.length c', .slice q' e.length f']] w fun r w' => r = .returned (.bool true) ∧ Below w.heap.size w w' := by
  subst hs hd
  have := RefAEqual_any p q p' q' c f c' f' s d s d w h1 h2 h3 h4
  have e : aeqS s d s d = true := by simp [aeqS, eqS]
  rw [e] at this
  exact this

set_option maxRecDepth 100000 in
set_option maxHeartbeats 4000000 in
theorem BSame_yes (p q : Option Addr) (c d : Nat) (bs cs : List BV) (hsame : SameB bs cs) (n : Nat) (hn : cs.length = n) (w : World) (h : Binds w p bs) (h' : Binds w q cs) :
    Calls Try.prog 27 #[.slice p bs.length c, .slice q n d] w fun e w' => e = .returned (.bool true) ∧ Below w.heap.size w w' := by
  have hsm := h.small
  obtain ⟨hlen, hall⟩ := hsame
  have hnb : ((bs.length : Int) != (n : Int)) = false := by simp; omega
  have Hall := Lib.hid hall
  have hnl : n = bs.length := by omega
  have Hlen := Lib.hid hlen
  subst hnl
  clear hall hlen hn
  go_enter Try.func27, Try.ntmps27
  go_wp2_with fail
  go_loopw [5] (fun i wr => ∃ k : Nat, k ≤ bs.length ∧ i = .int .i64 k ∧ Below w.heap.size w wr) (fun i _ => bs.length - (intOf i).toNat)
  case atStart => exact ⟨0, Nat.zero_le _, rfl, Below.refl _ _⟩
  case round =>
    obtain ⟨k, hk, rfl, hbw⟩ := hrel
    by_cases hlt : k < bs.length
    · have hlt' : k < cs.length := by have := Hlen.out; omega
      have hB := h.keep hbw
      have hB' := h'.keep hbw
      obtain ⟨g, off, rfl, hg0, c0, c1, c2⟩ := hB.at hlt
      obtain ⟨g', off', rfl, hg0', d0, d1, d2⟩ := hB'.at hlt'
      obtain ⟨i1, i2, i3⟩ := hB.vals _ (bth_mem hlt)
      obtain ⟨j1, j2, j3⟩ := hB'.vals _ (bth_mem hlt')
      obtain ⟨e1, e2, e3⟩ := Hall.out k hlt
      obtain ⟨b, hb⟩ : ∃ b, bth bs k = b := ⟨_, rfl⟩
      obtain ⟨b', hb'⟩ : ∃ b', bth cs k = b' := ⟨_, rfl⟩
      rw [hb] at c0 c1 c2 i1 i2 i3 e1 e2 e3
      rw [hb'] at d0 d1 d2 j1 j2 j3 e1 e2 e3
      have hki : (k : Int) < (bs.length : Int) := by omega
      have hkp : (0 : Int) ≤ (k : Int) := by omega
      have hx : (b.name.toList != b'.name.toList) = false := by rw [e1]; simp
      have hx2 := name_eq e1
      have E2 := Lib.hid e2
      have E3 := Lib.hid e3
      have hKS : Keeps (fun w' => (g < w'.heap.size ∧ w'.cell? ⟨g, off + k * 3, none⟩ = some (.string b.name)) ∧ (g < w'.heap.size ∧ w'.cell? ⟨g, off + k * 3 + 1, none⟩ = some (.slice b.sp b.s.length b.sc)) ∧ (g < w'.heap.size ∧ w'.cell? ⟨g, off + k * 3 + 2, none⟩ = some (.slice b.dp b.d.length b.dc)) ∧ (g' < w'.heap.size ∧ w'.cell? ⟨g', off' + k * 3, none⟩ = some (.string b'.name)) ∧ (g' < w'.heap.size ∧ w'.cell? ⟨g', off' + k * 3 + 1, none⟩ = some (.slice b'.sp b'.s.length b'.sc)) ∧ (g' < w'.heap.size ∧ w'.cell? ⟨g', off' + k * 3 + 2, none⟩ = some (.slice b'.dp b'.d.length b'.dc)) ∧ Ints w' b.sp b.s ∧ Ints w' b.dp b.d ∧ Ints w' b'.sp b'.s ∧ Ints w' b'.dp b'.d ∧ Below w.heap.size w w') :=
        (keeps_cell _ _ _).and ((keeps_cell _ _ _).and ((keeps_cell _ _ _).and ((keeps_cell _ _ _).and ((keeps_cell _ _ _).and ((keeps_cell _ _ _).and ((keeps_ints _ _).and ((keeps_ints _ _).and ((keeps_ints _ _).and ((keeps_ints _ _).and (keeps_below _))))))))))
      have hS := hKS _ _ ⟨⟨hg0, c0⟩, ⟨hg0, c1⟩, ⟨hg0, c2⟩, ⟨hg0', d0⟩, ⟨hg0', d1⟩, ⟨hg0', d2⟩, i1, i2, j1, j2, hbw⟩ (Below.refl _ _)
      clear hb hb' e1 e2 e3 c0 c1 c2 d0 d1 d2 i1 i2 j1 j2 hB hB' Hall
      go_wp2_with fail
      refine wp_region_noPanic ?_
      refine wp_region_held_drew (S := (fun w' => (g < w'.heap.size ∧ w'.cell? ⟨g, off + k * 3, none⟩ = some (.string b.name)) ∧ (g < w'.heap.size ∧ w'.cell? ⟨g, off + k * 3 + 1, none⟩ = some (.slice b.sp b.s.length b.sc)) ∧ (g < w'.heap.size ∧ w'.cell? ⟨g, off + k * 3 + 2, none⟩ = some (.slice b.dp b.d.length b.dc)) ∧ (g' < w'.heap.size ∧ w'.cell? ⟨g', off' + k * 3, none⟩ = some (.string b'.name)) ∧ (g' < w'.heap.size ∧ w'.cell? ⟨g', off' + k * 3 + 1, none⟩ = some (.slice b'.sp b'.s.length b'.sc)) ∧ (g' < w'.heap.size ∧ w'.cell? ⟨g', off' + k * 3 + 2, none⟩ = some (.slice b'.dp b'.d.length b'.dc)) ∧ Ints w' b.sp b.s ∧ Ints w' b.dp b.d ∧ Ints w' b'.sp b'.s ∧ Ints w' b'.dp b'.d ∧ Below w.heap.size w w')) (by kernel_rfl) ?_ (fun hHeld => ?_)
      · (try dsimp only); exact hKS _ _ (by first | exact hHeld | exact hS) (by first | assumption | (go_grown; done) | (refine from_drew ?_; go_grown; done))
      refine takeH 0 (some 17) (v := ?_) rfl rfl (by kernel_rfl) (by kernel_rfl) (by kernel_rfl) (by rfl) ?_ (by exact hHeld) ?_
      rotate_left
      · intro w hSw; (try dsimp only at hSw); go_simp; try (with_reducible rfl)
      try simp only [Act.put, List.setIfInBounds_toArray, List.set_cons_zero, List.set_cons_succ]
      refine takeH 1 (some 18) (v := ?_) rfl rfl (by kernel_rfl) (by kernel_rfl) (by kernel_rfl) (by rfl) ?_ (by exact hHeld) ?_
      rotate_left
      · intro w hSw; (try dsimp only at hSw); go_simp; try (with_reducible rfl)
      try simp only [Act.put, List.setIfInBounds_toArray, List.set_cons_zero, List.set_cons_succ]
      refine takeH 2 (some 19) (v := ?_) rfl rfl (by kernel_rfl) (by kernel_rfl) (by kernel_rfl) (by rfl) ?_ (by exact hHeld) ?_
      rotate_left
      · intro w hSw; (try dsimp only at hSw); go_simp; try (with_reducible rfl)
      try simp only [Act.put, List.setIfInBounds_toArray, List.set_cons_zero, List.set_cons_succ]
      refine takeH 3 (some 20) (v := ?_) rfl rfl (by kernel_rfl) (by kernel_rfl) (by kernel_rfl) (by rfl) ?_ (by exact hHeld) ?_
      rotate_left
      · intro w hSw; (try dsimp only at hSw); go_simp; try (with_reducible rfl)
      try simp only [Act.put, List.setIfInBounds_toArray, List.set_cons_zero, List.set_cons_succ]
      refine takeH 4 (some 21) (v := ?_) rfl rfl (by kernel_rfl) (by kernel_rfl) (by kernel_rfl) (by rfl) ?_ (by exact hHeld) ?_
      rotate_left
      · intro w hSw; (try dsimp only at hSw); go_simp; try (with_reducible rfl)
      try simp only [Act.put, List.setIfInBounds_toArray, List.set_cons_zero, List.set_cons_succ]
      refine takeH 5 (some 22) (v := ?_) rfl rfl (by kernel_rfl) (by kernel_rfl) (by kernel_rfl) (by rfl) ?_ (by exact hHeld) ?_
      rotate_left
      · intro w hSw; (try dsimp only at hSw); go_simp; try (with_reducible rfl)
      try simp only [Act.put, List.setIfInBounds_toArray, List.set_cons_zero, List.set_cons_succ]
      refine takeH 6 (some 23) (v := ?_) rfl rfl (by kernel_rfl) (by kernel_rfl) (by kernel_rfl) (by rfl) ?_ (by exact hHeld) ?_
      rotate_left
      · intro w hSw; (try dsimp only at hSw); go_simp; try (with_reducible rfl)
      try simp only [Act.put, List.setIfInBounds_toArray, List.set_cons_zero, List.set_cons_succ]
      refine takeH 7 (some 24) (v := ?_) rfl rfl (by kernel_rfl) (by kernel_rfl) (by kernel_rfl) (by rfl) ?_ (by exact hHeld) ?_
      rotate_left
      · intro w hSw; (try dsimp only at hSw); go_simp; try (with_reducible rfl)
      try simp only [Act.put, List.setIfInBounds_toArray, List.set_cons_zero, List.set_cons_succ]
      refine takeH 8 (some 25) (v := ?_) rfl rfl (by kernel_rfl) (by kernel_rfl) (by kernel_rfl) (by rfl) ?_ (by exact hHeld) ?_
      rotate_left
      · intro w hSw; (try dsimp only at hSw); go_simp; try (with_reducible rfl)
      try simp only [Act.put, List.setIfInBounds_toArray, List.set_cons_zero, List.set_cons_succ]
      refine takeH 9 (some 26) (v := ?_) rfl rfl (by kernel_rfl) (by kernel_rfl) (by kernel_rfl) (by rfl) ?_ (by exact hHeld) ?_
      rotate_left
      · intro w hSw; (try dsimp only at hSw); go_simp; try (with_reducible rfl)
      try simp only [Act.put, List.setIfInBounds_toArray, List.set_cons_zero, List.set_cons_succ]
      refine takeH 10 (some 27) (v := ?_) rfl rfl (by kernel_rfl) (by kernel_rfl) (by kernel_rfl) (by rfl) ?_ (by exact hHeld) ?_
      rotate_left
      · intro w hSw; (try dsimp only at hSw); go_simp; try (with_reducible rfl)
      try simp only [Act.put, List.setIfInBounds_toArray, List.set_cons_zero, List.set_cons_succ]
      refine takeH 11 (some 28) (v := ?_) rfl rfl (by kernel_rfl) (by kernel_rfl) (by kernel_rfl) (by rfl) ?_ (by exact hHeld) ?_
      rotate_left
      · intro w hSw; (try dsimp only at hSw); go_simp; try (with_reducible rfl)
      try simp only [Act.put, List.setIfInBounds_toArray, List.set_cons_zero, List.set_cons_succ]
      refine takeH 12 (some 29) (v := ?_) rfl rfl (by kernel_rfl) (by kernel_rfl) (by kernel_rfl) (by rfl) ?_ (by exact hHeld) ?_
      rotate_left
      · intro w hSw; (try dsimp only at hSw); go_simp; try (with_reducible rfl)
      try simp only [Act.put, List.setIfInBounds_toArray, List.set_cons_zero, List.set_cons_succ]
      refine takeH 13 (some 30) (v := ?_) rfl rfl (by kernel_rfl) (by kernel_rfl) (by kernel_rfl) (by rfl) ?_ (by exact hHeld) ?_
      rotate_left
      · intro w hSw; (try dsimp only at hSw); go_simp; try (with_reducible rfl)
      try simp only [Act.put, List.setIfInBounds_toArray, List.set_cons_zero, List.set_cons_succ]
      refine takeH 14 (some 31) (v := ?_) rfl rfl (by kernel_rfl) (by kernel_rfl) (by kernel_rfl) (by rfl) ?_ (by exact hHeld) ?_
      rotate_left
      · intro w hSw; (try dsimp only at hSw); go_simp; try (with_reducible rfl)
      try simp only [Act.put, List.setIfInBounds_toArray, List.set_cons_zero, List.set_cons_succ]
      refine takeH 15 (some 32) (v := ?_) rfl rfl (by kernel_rfl) (by kernel_rfl) (by kernel_rfl) (by rfl) ?_ (by exact hHeld) ?_
      rotate_left
      · intro w hSw; (try dsimp only at hSw); go_simp; try (with_reducible rfl)
      try simp only [Act.put, List.setIfInBounds_toArray, List.set_cons_zero, List.set_cons_succ]
      refine takeH 16 (some 33) (v := ?_) rfl rfl (by kernel_rfl) (by kernel_rfl) (by kernel_rfl) (by rfl) ?_ (by exact hHeld) ?_
      rotate_left
      · intro w hSw; (try dsimp only at hSw); go_simp; try (with_reducible rfl)
      try simp only [Act.put, List.setIfInBounds_toArray, List.set_cons_zero, List.set_cons_succ]
      refine takeH 17 (some 34) (v := ?_) rfl rfl (by kernel_rfl) (by kernel_rfl) (by kernel_rfl) (by rfl) ?_ (by exact hHeld) ?_
      rotate_left
      · intro w hSw; (try dsimp only at hSw); go_simp; try (with_reducible rfl)
      try simp only [Act.put, List.setIfInBounds_toArray, List.set_cons_zero, List.set_cons_succ]
      refine takeH 18 (some 35) (v := ?_) rfl rfl (by kernel_rfl) (by kernel_rfl) (by kernel_rfl) (by rfl) ?_ (by exact hHeld) ?_
      rotate_left
      · intro w hSw; (try dsimp only at hSw); go_simp; try (with_reducible rfl)
      try simp only [Act.put, List.setIfInBounds_toArray, List.set_cons_zero, List.set_cons_succ]
      refine takeH 19 (some 36) (v := ?_) rfl rfl (by kernel_rfl) (by kernel_rfl) (by kernel_rfl) (by rfl) ?_ (by exact hHeld) ?_
      rotate_left
      · intro w hSw; (try dsimp only at hSw); go_simp; try (with_reducible rfl)
      try simp only [Act.put, List.setIfInBounds_toArray, List.set_cons_zero, List.set_cons_succ]
      refine takeH 20 (some 37) (v := ?_) rfl rfl (by kernel_rfl) (by kernel_rfl) (by kernel_rfl) (by rfl) ?_ (by exact hHeld) ?_
      rotate_left
      · intro w hSw; (try dsimp only at hSw); go_simp; try (with_reducible rfl)
      try simp only [Act.put, List.setIfInBounds_toArray, List.set_cons_zero, List.set_cons_succ]
      refine takeH 21 (some 38) (v := ?_) rfl rfl (by kernel_rfl) (by kernel_rfl) (by kernel_rfl) (by rfl) ?_ (by exact hHeld) ?_
      rotate_left
      · intro w hSw; (try dsimp only at hSw); go_simp; try (with_reducible rfl)
      try simp only [Act.put, List.setIfInBounds_toArray, List.set_cons_zero, List.set_cons_succ]
      refine wpAnyH_ready (rs := [22]) (by kernel_rfl) (by simp) ?_
      refine stepH 22 rfl (by rfl) (fun K hK => ?_) ?_
      · go_simp
        ((with_reducible refine (RefAEqual_yes _ _ _ _ _ _ _ _ b.s b.d b'.s b'.d E2.out E3.out _ ?_ ?_ ?_ ?_).mono ?_); (exact hHeld.2.2.2.2.2.2.1); (exact hHeld.2.2.2.2.2.2.2.1); (exact hHeld.2.2.2.2.2.2.2.2.1); (exact hHeld.2.2.2.2.2.2.2.2.2.1); rintro e6 w6 ⟨rfl, hb6⟩)
        refine hK.out _ _ ?_ (fun hNew => ?_)
        · (try dsimp only); exact hKS _ _ (by first | exact hHeld | exact hS) (by first | assumption | (go_grown; done) | (refine from_drew ?_; go_grown; done))
        clear hK K hHeld
        have hHeld := hNew
        clear hNew
        try dsimp only at hHeld
        try simp only [Act.put, List.setIfInBounds_toArray, List.set_cons_zero, List.set_cons_succ]
        refine takeH 23 (some 40) (v := ?_) rfl rfl (by kernel_rfl) (by kernel_rfl) (by kernel_rfl) (by rfl) ?_ (by exact hHeld) ?_
        rotate_left
        · intro w hSw; (try dsimp only at hSw); go_simp; try (with_reducible rfl)
        try simp only [Act.put, List.setIfInBounds_toArray, List.set_cons_zero, List.set_cons_succ]
        refine takeH 24 (some 41) (v := ?_) rfl rfl (by kernel_rfl) (by kernel_rfl) (by kernel_rfl) (by rfl) ?_ (by exact hHeld) ?_
        rotate_left
        · intro w hSw; (try dsimp only at hSw); go_simp; try (with_reducible rfl)
        try simp only [Act.put, List.setIfInBounds_toArray, List.set_cons_zero, List.set_cons_succ]
        refine wpAnyH_done (by kernel_rfl) ?_ _
        refine NoPanic.normal ?_
        have hb6 := hHeld.2.2.2.2.2.2.2.2.2.2
        go_wp2_with fail
        go_roundw
        case rel => exact ⟨k + 1, by omega, by go_num, hb6⟩
        case measure => simp [intOf]; omega
      exact AllReadyH.nil
    · have hki : ¬ (k : Int) < (bs.length : Int) := by omega
      go_wp2_with fail
      go_ret
      exact ⟨rfl, hbw⟩
end Go.Proofs.Ytolkgjbljdmadaa
