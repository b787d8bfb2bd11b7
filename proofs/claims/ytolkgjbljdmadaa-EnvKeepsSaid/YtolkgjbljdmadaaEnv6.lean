/- env.New: of a list of bindings that is right. No condition beyond what it says. -/
import Derived.Test.YtolkgjbljdmadaaEnv5
namespace Go.Proofs.Ytolkgjbljdmadaa
open Go.RowKit Go.Shelf
set_option linter.unusedVariables false
set_option linter.unusedSimpArgs false

/-- an environment: a block with a list and a map, all of it in blocks from B on -/
structure EnvAt (B : Nat) (w : World) (g : Nat) (cs : List BV) : Prop where
  hB : B ≤ g
  env : ∃ p c m, Own w g 98 [.slice p cs.length c, .map (some m)] ∧ New B w p 62 (rowsB cs) ∧ B ≤ m ∧ HasMap w m (cs.map BV.name)
  vals : Vals B w cs
  right : RightP cs

theorem info_bind : (Try.prog.info? 62).map (fun i => (i.zero, i.size, i.bytes)) = some (some (.agg #[.string ⟨#[]⟩, .slice none 0 0, .slice none 0 0]), 3, 64) := by kernel_rfl

theorem same_good {bs cs : List BV} {k : Nat} (hl : cs.length = k) (hs : ∀ j, j < k → (bth bs j).name = (bth cs j).name ∧ (bth bs j).s = (bth cs j).s ∧ (bth bs j).d = (bth cs j).d) (hg : ∀ j, j < k → GoodAt bs j) : RightP cs := by
  intro j hj
  obtain ⟨h1, h2⟩ := hg j (by omega)
  obtain ⟨e1, e2, e3⟩ := hs j (by omega)
  refine ⟨?_, fun i hi => ?_⟩
  · unfold okB at h1 ⊢
    rw [← e1, ← e2, ← e3]
    exact h1
  · rw [← e1, ← (hs i (by omega)).1]
    exact h2 i hi

theorem bth_append_left {cs ds : List BV} {j : Nat} (hj : j < cs.length) : bth (cs ++ ds) j = bth cs j := by
  unfold bth
  rw [List.getD_eq_getElem?_getD, List.getD_eq_getElem?_getD, List.getElem?_append_left hj]
theorem bth_append_last {cs : List BV} {b : BV} : bth (cs ++ [b]) cs.length = b := by
  unfold bth
  rw [List.getD_eq_getElem?_getD, List.getElem?_append_right (Nat.le_refl _)]
  simp
theorem names_no {bs cs : List BV} {k : Nat} (hl : cs.length = k) (hs : ∀ j, j < k → (bth bs j).name = (bth cs j).name ∧ (bth bs j).s = (bth cs j).s ∧ (bth bs j).d = (bth cs j).d) {x : ByteArray} (hx : ∀ j, j < k → (bth bs j).name ≠ x) : x ∉ cs.map BV.name := by
  intro h
  obtain ⟨b, hb, rfl⟩ := List.mem_map.1 h
  obtain ⟨j, hj, rfl⟩ := List.mem_iff_getElem.1 hb
  have e : cs[j] = bth cs j := by
    have := bth_get? hj
    rw [List.getElem?_eq_getElem hj] at this
    exact Option.some.inj this
  rw [e] at hx
  exact hx j (by omega) (hs j (by omega)).1

theorem newSt_next {w a z : World} {bs cs : List BV} {k : Nat} {p q' : Option Addr} {c c' : Nat} (st : NewSt w bs k cs p c a) (b' : BV) (hb' : (bth bs k).name = b'.name ∧ (bth bs k).s = b'.s ∧ (bth bs k).d = b'.d) (hgood : GoodAt bs k)
    (own7 : Own z (w.heap.size + 1) 92 [.slice q' (k + 1) c', .map (some w.heap.size)]) (val7 : Vals w.heap.size z (cs ++ [b'])) (row7 : z.ownsRow w.heap.size 62 3 (.slice q' (k + 1) c') (k + 1) (rowsB (cs ++ [b']))) (bel7 : Below w.heap.size w z)
    (map7 : z.ownsMap Try.prog 9 (plainElem (H := Unit) Try.prog 3) w.heap.size ((cs.map BV.name).length + 1) ((placeD (cs.map BV.name)).put (skey b'.name) (.lit (.int .i64 k)))) : NewSt w bs (k + 1) (cs ++ [b']) q' c' z := by
  refine ⟨own7, row7, ?_, val7, by simp [st.len], fun j hj => ?_, fun j hj => ?_, bel7⟩
  · unfold HasMap
    rw [List.map_append, List.map_cons, List.map_nil, placeD_snoc, List.length_append]
    have e : (cs.map BV.name).length = k := by rw [List.length_map]; exact st.len
    rw [e] at map7 ⊢
    exact map7
  · by_cases hk : j < k
    · rw [bth_append_left (by rw [st.len]; exact hk)]
      exact st.same j hk
    · have he : j = cs.length := by have := st.len; omega
      rw [he, bth_append_last, st.len]
      exact hb'
  · by_cases hk : j < k
    · exact st.good j hk
    · have he : j = k := by omega
      rw [he]
      exact hgood

theorem row_new3 {w : World} {B n size : Nat} {e : TypeId} {p : Option Addr} {c : Nat} {xs : List Value} (h : w.ownsRow B e size (.slice p n c) n xs) : New B w p e xs := by
  obtain ⟨h1, h2⟩ := h
  rcases h2 with ⟨hv, h0⟩ | ⟨g, cap, cur, hv, hb, hg, -, -, -, ht⟩
  · subst h0
    exact .inl (List.eq_nil_of_length_eq_zero (by simpa using h1))
  · injection hv with hp
    subst hp
    refine .inr ⟨g, rfl, hb, cur.toList.drop xs.length, ?_⟩
    rw [hg]
    have e : xs ++ cur.toList.drop xs.length = cur.toList := by
      rw [← h1] at ht
      conv => lhs; lhs; rw [← ht]
      exact List.take_append_drop _ _
    rw [e]
theorem okB_arr {b : BV} (h : okB b = true) : arrS b.s b.d = 0 := by
  unfold okB at h
  rw [Bool.and_eq_true] at h
  exact of_decide_eq_true h.2
theorem vals_one {B : Nat} {w : World} {b : BV} (h1 : New B w b.sp 3 (b.s.map (.int .i64))) (h2 : New B w b.dp 2 (b.d.map (.int .i64))) (h3 : ∀ x ∈ b.s, I64 x) (h4 : ∀ x ∈ b.d, I64 x) (h5 : b.s.length ≤ 1000000) (h6 : b.d.length ≤ 1000000) (h7 : b.name.size ≤ 9223372036854775807) : Vals B w [b] := by
  intro x hx
  rw [List.mem_singleton] at hx
  subst hx
  exact ⟨h1, h2, h3, h4, h5, h6, h7⟩

/-- what env.New leaves: an environment with the same bindings, or nothing and an error -/
def NewPost (bs : List BV) (w : World) (e : Ending) (w' : World) : Prop :=
  ((RightP bs ∧ ∃ g cs, e = .returned (.tuple #[.pointer (some ⟨g, 0, none⟩), .int .i64 0]) ∧ EnvAt w.heap.size w' g cs ∧ SameB bs cs) ∨ (¬ RightP bs ∧ e = .returned (.tuple #[.pointer none, .int .i64 3]))) ∧ Below w.heap.size w w'
theorem newPost_yes {bs cs : List BV} {w w' : World} {g : Nat} (hr : RightP bs) (he : EnvAt w.heap.size w' g cs) (hs : SameB bs cs) (hb : Below w.heap.size w w') : NewPost bs w (.returned (.tuple #[.pointer (some ⟨g, 0, none⟩), .int .i64 0])) w' :=
  ⟨.inl ⟨hr, g, cs, rfl, he, hs⟩, hb⟩
theorem newPost_no {bs : List BV} {w w' : World} (hr : ¬ RightP bs) (hb : Below w.heap.size w w') : NewPost bs w (.returned (.tuple #[.pointer none, .int .i64 3])) w' := ⟨.inr ⟨hr, rfl⟩, hb⟩

theorem cs_at {cs : List BV} {j : Nat} (hj : j < cs.length) : (cs.map BV.name)[j]? = some (bth cs j).name := by
  rw [List.getElem?_map, bth_get? hj]; rfl
theorem names_yes {bs cs : List BV} {k : Nat} (hl : cs.length = k) (hs : ∀ j, j < k → (bth bs j).name = (bth cs j).name ∧ (bth bs j).s = (bth cs j).s ∧ (bth bs j).d = (bth cs j).d) (hg : ∀ j, j < k → GoodAt bs j) {x : ByteArray} {j : Nat} (hj : j < k) (hx : (bth bs j).name = x) :
    (cs.map BV.name)[j]? = some x ∧ ∀ i, j < i → (cs.map BV.name)[i]? ≠ some x := by
  refine ⟨by rw [cs_at (by omega), ← (hs j hj).1, hx], fun i hi h => ?_⟩
  have hil : i < cs.length := by
    have := (List.getElem?_eq_some_iff.1 h).1
    simpa using this
  rw [cs_at hil, ← (hs i (by omega)).1] at h
  have h := Option.some.inj h
  exact (hg i (by omega)).2 j hi (hx.trans h.symm)

set_option maxRecDepth 100000 in
set_option maxHeartbeats 8000000 in
theorem New_any (p : Option Addr) (c : Nat) (bs : List BV) (hl : bs.length ≤ 1000000) (w : World) (h : Binds w p bs) :
    Calls Try.prog 25 #[.slice p bs.length c] w (NewPost bs w) := by
  have hmm := @run_makeMap Try.prog
  obtain ⟨W, hW⟩ : ∃ W, (w.alloc (.map #[] 0)).alloc (.cells #[.slice none 0 0, .map (some w.heap.size)] 92) = W := ⟨_, rfl⟩
  have hst : NewSt w bs 0 [] none 0 W := by
    rw [← hW]
    refine ⟨Own.made _ _ _ _ (by simp), World.ownsRow_nil _ _ _ _, (World.ownsMap_made w _ _ _).alloc _, fun b hb => (by cases hb), rfl, fun j hj => by omega, fun j hj => by omega, below_t (below_alloc _ _) (below_alloc _ _)⟩
  have HW := Lib.hid hW
  have HST := Lib.hid hst
  clear hW hst
  obtain ⟨i0, hi, hz0, hz1, hz2⟩ := info_parts info_bind
  go_enter Try.func25, Try.ntmps25
  go_wp2_with fail
  rw [HW.out]
  go_loopw [13] (fun i wr => ∃ (k : Nat) (cs : List BV) (q : Option Addr) (cq : Nat), k ≤ bs.length ∧ i = .int .i64 k ∧ Hid (NewSt w bs k cs q cq wr)) (fun i _ => bs.length - (intOf i).toNat)
  case atStart => exact ⟨0, [], none, 0, Nat.zero_le _, rfl, HST.out⟩
  case round =>
    obtain ⟨k, cs, q, cq, hk, rfl, HS⟩ := hrel
    clear HST
    by_cases hlt : k < bs.length
    · have hB := h.keep HS.out.below
      obtain ⟨g, off, rfl, hg0, c0, c1, c2⟩ := hB.at hlt
      obtain ⟨i1, i2, i3⟩ := hB.vals _ (bth_mem hlt)
      by_cases hgd : GoodAt bs k
      · obtain ⟨hok, hdis⟩ := hgd
        have hnn := names_no HS.out.len HS.out.same hdis
        have HG : Hid (GoodAt bs k) := ⟨hok, hdis⟩
        obtain ⟨b, hb⟩ : ∃ b, bth bs k = b := ⟨_, rfl⟩
        rw [hb] at c0 c1 c2 i1 i2 i3 hok hnn
        have hki : (k : Int) < (bs.length : Int) := by omega
        have hba := below_alloc wr (.cells #[.string b.name, .slice b.sp b.s.length b.sc, .slice b.dp b.d.length b.dc] 62)
        have b0 : (wr.alloc (.cells #[.string b.name, .slice b.sp b.s.length b.sc, .slice b.dp b.d.length b.dc] 62)).cell? ⟨wr.heap.size, 0, none⟩ = some (.string b.name) := by simp [go_sem]
        have b1 : (wr.alloc (.cells #[.string b.name, .slice b.sp b.s.length b.sc, .slice b.dp b.d.length b.dc] 62)).cell? ⟨wr.heap.size, 1, none⟩ = some (.slice b.sp b.s.length b.sc) := by simp [go_sem]
        have b2 : (wr.alloc (.cells #[.string b.name, .slice b.sp b.s.length b.sc, .slice b.dp b.d.length b.dc] 62)).cell? ⟨wr.heap.size, 2, none⟩ = some (.slice b.dp b.d.length b.dc) := by simp [go_sem]
        obtain ⟨W1, hW1⟩ : ∃ W1, wr.alloc (.cells #[.string b.name, .slice b.sp b.s.length b.sc, .slice b.dp b.d.length b.dc] 62) = W1 := ⟨_, rfl⟩
        have hbl : wr.heap.size < W1.heap.size := by rw [← hW1]; simp
        rw [hW1] at hba b0 b1 b2
        have HS1 := Lib.hid (HS.out.keep hba)
        have t0 := HS.out.own.cell (i := 0) rfl
        have t1 := HS.out.own.cell (i := 1) rfl
        have hbt := HS.out.own.lt
        have hnt : w.heap.size + 1 ≠ wr.heap.size := by omega
        have i1 := i1.keep hba
        have i2 := i2.keep hba
        have HW1 := Lib.hid hW1
        have HOK := Lib.hid hok
        have HNN := Lib.hid hnn
        have HBE := Lib.hid hb
        clear hW1 hok hnn hb hdis hB
        go_wp2_with fail
        rw [HW1.out]
        clear t0 t1
        refine (find_no q k cq w.heap.size (cs.map BV.name) b.name HNN.out (by omega) _ HS1.out.map).mono ?_
        rintro e2 W2 ⟨rfl, hb2⟩
        have b0 := (hb2.cell (p := ⟨wr.heap.size, 0, none⟩) hbl).trans b0
        have b1 := (hb2.cell (p := ⟨wr.heap.size, 1, none⟩) hbl).trans b1
        have b2 := (hb2.cell (p := ⟨wr.heap.size, 2, none⟩) hbl).trans b2
        have i1 := i1.keep hb2
        have i2 := i2.keep hb2
        have HS2 := Lib.hid (HS1.out.keep hb2)
        have hbl := Nat.lt_of_lt_of_le hbl hb2.size
        clear hb2
        go_wp2_with fail
        refine (right_is b true HOK.out _ i1 i2).mono ?_
        rintro e3 W3 ⟨rfl, hb3⟩
        have b0 := (hb3.cell (p := ⟨wr.heap.size, 0, none⟩) hbl).trans b0
        have b1 := (hb3.cell (p := ⟨wr.heap.size, 1, none⟩) hbl).trans b1
        have b2 := (hb3.cell (p := ⟨wr.heap.size, 2, none⟩) hbl).trans b2
        have i1 := i1.keep hb3
        have i2 := i2.keep hb3
        have HS3 := Lib.hid (HS2.out.keep hb3)
        have hbl := Nat.lt_of_lt_of_le hbl hb3.size
        clear hb3 HS1 HS2
        have t0 := HS3.out.own.cell (i := 0) rfl
        have t1 := HS3.out.own.cell (i := 1) rfl
        have hbt3 := HS3.out.own.lt
        have hKS : Keeps (fun w' => (w.heap.size + 1 < w'.heap.size ∧ w'.cell? ⟨w.heap.size + 1, 1, none⟩ = some (.map (some w.heap.size))) ∧ (wr.heap.size < w'.heap.size ∧ w'.cell? ⟨wr.heap.size, 0, none⟩ = some (.string b.name)) ∧ (wr.heap.size < w'.heap.size ∧ w'.cell? ⟨wr.heap.size, 1, none⟩ = some (.slice b.sp b.s.length b.sc)) ∧ (wr.heap.size < w'.heap.size ∧ w'.cell? ⟨wr.heap.size, 2, none⟩ = some (.slice b.dp b.d.length b.dc))) := (keeps_cell _ _ _).and ((keeps_cell _ _ _).and ((keeps_cell _ _ _).and (keeps_cell _ _ _)))
        have hKm : ∀ (a z : World), (fun w' => (w.heap.size + 1 < w'.heap.size ∧ w'.cell? ⟨w.heap.size + 1, 1, none⟩ = some (.map (some w.heap.size))) ∧ (wr.heap.size < w'.heap.size ∧ w'.cell? ⟨wr.heap.size, 0, none⟩ = some (.string b.name)) ∧ (wr.heap.size < w'.heap.size ∧ w'.cell? ⟨wr.heap.size, 1, none⟩ = some (.slice b.sp b.s.length b.sc)) ∧ (wr.heap.size < w'.heap.size ∧ w'.cell? ⟨wr.heap.size, 2, none⟩ = some (.slice b.dp b.d.length b.dc))) a → a.heap.size ≤ z.heap.size → z.cell? ⟨w.heap.size + 1, 1, none⟩ = some (.map (some w.heap.size)) → z.heap[wr.heap.size]? = a.heap[wr.heap.size]? → (fun w' => (w.heap.size + 1 < w'.heap.size ∧ w'.cell? ⟨w.heap.size + 1, 1, none⟩ = some (.map (some w.heap.size))) ∧ (wr.heap.size < w'.heap.size ∧ w'.cell? ⟨wr.heap.size, 0, none⟩ = some (.string b.name)) ∧ (wr.heap.size < w'.heap.size ∧ w'.cell? ⟨wr.heap.size, 1, none⟩ = some (.slice b.sp b.s.length b.sc)) ∧ (wr.heap.size < w'.heap.size ∧ w'.cell? ⟨wr.heap.size, 2, none⟩ = some (.slice b.dp b.d.length b.dc))) z := by
          rintro a z ⟨⟨k1, k2⟩, ⟨k3, k4⟩, ⟨-, k5⟩, -, k6⟩ hs h1 h2
          have e : ∀ i, z.cell? ⟨wr.heap.size, i, none⟩ = a.cell? ⟨wr.heap.size, i, none⟩ := fun i => World.cell?_of_block (w := a) (a := ⟨wr.heap.size, i, none⟩) h2
          exact ⟨⟨Nat.lt_of_lt_of_le k1 hs, h1⟩, ⟨Nat.lt_of_lt_of_le k3 hs, (e 0).trans k4⟩, ⟨Nat.lt_of_lt_of_le k3 hs, (e 1).trans k5⟩, ⟨Nat.lt_of_lt_of_le k3 hs, (e 2).trans k6⟩⟩
        have hS := hKS _ _ ⟨⟨hbt3, t1⟩, ⟨hbl, b0⟩, ⟨hbl, b1⟩, ⟨hbl, b2⟩⟩ (Below.refl _ _)
        have hkey := keyOf_str (x := b.name) (by omega)
        have hle3 : w.heap.size ≤ W3.drew.heap.size := HS3.out.below.size
        have hsm := arr_small (okB_arr HOK.out)
        clear t1 b0 b1 b2
        go_wp2_with fail
        refine wp_region_noPanic ?_
        refine wp_region_held_drew (S := (fun w' => (w.heap.size + 1 < w'.heap.size ∧ w'.cell? ⟨w.heap.size + 1, 1, none⟩ = some (.map (some w.heap.size))) ∧ (wr.heap.size < w'.heap.size ∧ w'.cell? ⟨wr.heap.size, 0, none⟩ = some (.string b.name)) ∧ (wr.heap.size < w'.heap.size ∧ w'.cell? ⟨wr.heap.size, 1, none⟩ = some (.slice b.sp b.s.length b.sc)) ∧ (wr.heap.size < w'.heap.size ∧ w'.cell? ⟨wr.heap.size, 2, none⟩ = some (.slice b.dp b.d.length b.dc)))) (by kernel_rfl) ?_ (fun hHeld => ?_)
        · (try dsimp only); first | exact hS7 | exact hS6 | exact hS5 | exact hKS _ _ (by first | exact hHeld | exact hS) (by first | assumption | (go_grown; done) | (refine from_drew ?_; go_grown; done))
        refine takeH 0 (some 31) (v := ?_) rfl rfl (by kernel_rfl) (by kernel_rfl) (by kernel_rfl) (by rfl) ?_ (by exact hHeld) ?_
        rotate_left
        · intro w hSw; (try dsimp only at hSw); go_simp; try (with_reducible rfl)
        try simp only [Act.put, List.setIfInBounds_toArray, List.set_cons_zero, List.set_cons_succ]
        refine takeH 1 (some 32) (v := ?_) rfl rfl (by kernel_rfl) (by kernel_rfl) (by kernel_rfl) (by rfl) ?_ (by exact hHeld) ?_
        rotate_left
        · intro w hSw; (try dsimp only at hSw); go_simp; try (with_reducible rfl)
        try simp only [Act.put, List.setIfInBounds_toArray, List.set_cons_zero, List.set_cons_succ]
        refine takeH 2 (some 33) (v := ?_) rfl rfl (by kernel_rfl) (by kernel_rfl) (by kernel_rfl) (by rfl) ?_ (by exact hHeld) ?_
        rotate_left
        · intro w hSw; (try dsimp only at hSw); go_simp; try (with_reducible rfl)
        try simp only [Act.put, List.setIfInBounds_toArray, List.set_cons_zero, List.set_cons_succ]
        refine takeH 3 (some 34) (v := ?_) rfl rfl (by kernel_rfl) (by kernel_rfl) (by kernel_rfl) (by rfl) ?_ (by exact hHeld) ?_
        rotate_left
        · intro w hSw; (try dsimp only at hSw); go_simp; try (with_reducible rfl)
        try simp only [Act.put, List.setIfInBounds_toArray, List.set_cons_zero, List.set_cons_succ]
        refine takeH 4 (some 35) (v := ?_) rfl rfl (by kernel_rfl) (by kernel_rfl) (by kernel_rfl) (by rfl) ?_ (by exact hHeld) ?_
        rotate_left
        · intro w hSw; (try dsimp only at hSw); go_simp; try (with_reducible rfl)
        try simp only [Act.put, List.setIfInBounds_toArray, List.set_cons_zero, List.set_cons_succ]
        refine takeH 6 (some 37) (v := ?_) rfl rfl (by kernel_rfl) (by kernel_rfl) (by kernel_rfl) (by rfl) ?_ (by exact hHeld) ?_
        rotate_left
        · intro w hSw; (try dsimp only at hSw); go_simp; try (with_reducible rfl)
        try simp only [Act.put, List.setIfInBounds_toArray, List.set_cons_zero, List.set_cons_succ]
        refine takeH 10 (some 41) (v := ?_) rfl rfl (by kernel_rfl) (by kernel_rfl) (by kernel_rfl) (by rfl) ?_ (by exact hHeld) ?_
        rotate_left
        · intro w hSw; (try dsimp only at hSw); go_simp; try (with_reducible rfl)
        try simp only [Act.put, List.setIfInBounds_toArray, List.set_cons_zero, List.set_cons_succ]
        refine wpAnyH_ready (rs := [5, 7]) (by kernel_rfl) (by simp) ?_
        refine stepH 5 rfl (by rfl) (fun K hK => ?_) ?_
        · go_simp
          refine hK.out _ _ ?_ (fun hNew => ?_)
          · (try dsimp only); first | exact hS7 | exact hS6 | exact hS5 | exact hKS _ _ (by first | exact hHeld | exact hS) (by first | assumption | (go_grown; done) | (refine from_drew ?_; go_grown; done))
          clear hK K hHeld
          have hHeld := hNew
          clear hNew
          try dsimp only at hHeld
          try simp only [Act.put, List.setIfInBounds_toArray, List.set_cons_zero, List.set_cons_succ]
          refine wpAnyH_ready (rs := [7]) (by kernel_rfl) (by simp) ?_
          refine stepH 7 rfl (by rfl) (fun K hK => ?_) ?_
          · go_simp
            ((with_reducible refine (copied_any b _ ?_ ?_ (by omega) (by omega)).mono ?_); (exact i1.keep ((Below.refl _ _).drew)); (exact i2.keep ((Below.refl _ _).drew)); rintro e4 w4 ⟨⟨p4, c4, q4, f4, rfl, hn1, hn2⟩, hb4⟩; have hb4' : Below W3.heap.size W3 w4 := below_t ((Below.refl _ W3).drew) hb4; have HS4 := Lib.hid (HS3.out.keep hb4'); have hv4 : Hid (Vals w.heap.size w4 [⟨b.name, p4, c4, b.s, q4, f4, b.d⟩]) := vals_one (hn1.mono hle3) (hn2.mono hle3) i1.i64 i2.i64 (by show b.s.length ≤ 1000000; omega) (by show b.d.length ≤ 1000000; omega) i3; have t04 := HS4.out.own.cell (i := 0) rfl; have hl4 := HS4.out.own.lt; have hn4 : w.heap.size + 1 ≠ w4.heap.size := (by omega); clear hn1 hn2)
            refine hK.out _ _ ?_ (fun hNew => ?_)
            · (try dsimp only); first | exact hS7 | exact hS6 | exact hS5 | exact hKS _ _ (by first | exact hHeld | exact hS) (by first | assumption | (go_grown; done) | (refine from_drew ?_; go_grown; done))
            clear hK K hHeld
            have hHeld := hNew
            clear hNew
            try dsimp only at hHeld
            try simp only [Act.put, List.setIfInBounds_toArray, List.set_cons_zero, List.set_cons_succ]
            refine wpAnyH_ready (rs := [8]) (by kernel_rfl) (by simp) ?_
            refine stepH 8 rfl (by rfl) (fun K hK => ?_) ?_
            · go_simp
              refine hK.out _ _ ?_ (fun hNew => ?_)
              · (try dsimp only); first | exact hS7 | exact hS6 | exact hS5 | exact hKS _ _ (by first | exact hHeld | exact hS) (by first | assumption | (go_grown; done) | (refine from_drew ?_; go_grown; done))
              clear hK K hHeld
              have hHeld := hNew
              clear hNew
              try dsimp only at hHeld
              try simp only [Act.put, List.setIfInBounds_toArray, List.set_cons_zero, List.set_cons_succ]
              refine wpAnyH_ready (rs := [9]) (by kernel_rfl) (by simp) ?_
              refine stepH 9 rfl (by rfl) (fun K hK => ?_) ?_
              · (refine wp_append_lies _ _ _ 45 rfl w.heap.size 62 i0 _ 3 64 Try.underlying45 hi hz0 hz1 hz2 rfl (by decide) (.slice q k cq) k (rowsB cs) rfl (HS4.out.row.alloc _) ⟨w4.heap.size, 0, none⟩ 1 1 [.string b.name, .slice p4 b.s.length c4, .slice q4 b.d.length f4] rfl rfl (World.news_of_block (heap_alloc_new w4 _)) (by simp [Value.oneCell']) (by decide) (by unfold maxLen; omega) (by omega) (by have := HS4.out.below.size; simp; omega) _ rfl ?_); intro g5 cap5 w5 hown5 hgrow5 hat5 hlt5; obtain ⟨own5, map5, val5, bel5⟩ := mid_append HS4.out hv4.out hgrow5; have row5 : w5.ownsRow w.heap.size 62 3 (.slice (some ⟨g5, 0, none⟩) (k + 1) cap5) (k + 1) (rowsB (cs ++ [⟨b.name, p4, c4, b.s, q4, f4, b.d⟩])) := (by rw [rowsB_append]; exact hown5); have hS5 := hKm _ w5 hHeld hgrow5.size (own5.cell (i := 1) rfl) (hgrow5.block wr.heap.size (Nat.lt_of_lt_of_le hbl (by have := hb4'.size; simp; omega)) (fun e => by have := (HS.out.row.lt _ e.symm).2; omega)); have c50 := own5.cell (i := 0) rfl; have f50 := own5.frozen 0; obtain ⟨own6, map6, val6, row6, bel6⟩ := mid_set (x := .slice (some ⟨g5, 0, none⟩) (k + 1) cap5) own5 map5 val5 row5 bel5 (Nat.le_succ _); have hS6 := hKm _ (w5.setCell ⟨w.heap.size + 1, 0, none⟩ (.slice (some ⟨g5, 0, none⟩) (k + 1) cap5)) hS5 (by simp) (own6.cell (i := 1) rfl) (Below.heap_setCell _ _ _ _ (by show wr.heap.size ≠ w.heap.size + 1; omega)); have O6 := Lib.hid own6; have M6 := Lib.hid map6; have V6 := Lib.hid val6; have R6 := Lib.hid row6; have B6 := Lib.hid bel6; clear own5 map5 val5 bel5 row5 own6 map6 val6 row6 bel6 hown5 hat5 hgrow5
                refine hK.out _ _ ?_ (fun hNew => ?_)
                · (try dsimp only); first | exact hS7 | exact hS6 | exact hS5 | exact hKS _ _ (by first | exact hHeld | exact hS) (by first | assumption | (go_grown; done) | (refine from_drew ?_; go_grown; done))
                clear hK K hHeld
                have hHeld := hNew
                clear hNew
                try dsimp only at hHeld
                try simp only [Act.put, List.setIfInBounds_toArray, List.set_cons_zero, List.set_cons_succ]
                refine takeH 11 (some 42) (v := ?_) rfl rfl (by kernel_rfl) (by kernel_rfl) (by kernel_rfl) (by rfl) ?_ (by exact hHeld) ?_
                rotate_left
                · intro w hSw; (try dsimp only at hSw); go_simp; try (with_reducible rfl)
                try simp only [Act.put, List.setIfInBounds_toArray, List.set_cons_zero, List.set_cons_succ]
                refine wpAnyH_ready (rs := [12]) (by kernel_rfl) (by simp) ?_
                refine stepH 12 rfl (by rfl) (fun K hK => ?_) ?_
                · go_simp
                  refine hK.out _ _ ?_ (fun hNew => ?_)
                  · (try dsimp only); first | exact hS7 | exact hS6 | exact hS5 | exact hKS _ _ (by first | exact hHeld | exact hS) (by first | assumption | (go_grown; done) | (refine from_drew ?_; go_grown; done))
                  clear hK K hHeld
                  have hHeld := hNew
                  clear hNew
                  try dsimp only at hHeld
                  try simp only [Act.put, List.setIfInBounds_toArray, List.set_cons_zero, List.set_cons_succ]
                  refine wpAnyH_ready (rs := [13]) (by kernel_rfl) (by simp) ?_
                  refine stepH 13 rfl (by rfl) (fun K hK => ?_) ?_
                  · (refine wp_mapUpdate_own _ _ _ 90 rfl 9 3 keyStr Try.underlying90 (plainElem (H := Unit) Try.prog 3) w.heap.size _ _ rfl M6.out (by rw [List.length_map, HS.out.len]; unfold maxLen; omega) _ _ _ rfl rfl hkey _ [] (plainElem_int Try.underlying3 (WalkArith.wf_i64 (by omega))) ?_); intro w7 hown7 hgrow7; obtain ⟨own7, val7, row7, bel7⟩ := mid_map O6.out M6.out V6.out R6.out B6.out (Nat.le_refl _) hgrow7; have hS7 := hKm _ w7 hS6 hgrow7.size (own7.cell (i := 1) rfl) (hgrow7.block wr.heap.size (by have := hS6.2.1.1; exact this) (by simp; omega)); have hnext := Lib.hid (newSt_next HS.out ⟨b.name, p4, c4, b.s, q4, f4, b.d⟩ (by rw [HBE.out]; exact ⟨rfl, rfl, rfl⟩) HG.out own7 val7 row7 bel7 hown7); clear own7 val7 row7 bel7 hown7
                    refine hK.out _ _ ?_ (fun hNew => ?_)
                    · (try dsimp only); first | exact hS7 | exact hS6 | exact hS5 | exact hKS _ _ (by first | exact hHeld | exact hS) (by first | assumption | (go_grown; done) | (refine from_drew ?_; go_grown; done))
                    clear hK K hHeld
                    have hHeld := hNew
                    clear hNew
                    try dsimp only at hHeld
                    try simp only [Act.put, List.setIfInBounds_toArray, List.set_cons_zero, List.set_cons_succ]
                    refine wpAnyH_done (by kernel_rfl) ?_ _
                    refine NoPanic.normal ?_
                    go_wp2_with fail
                    go_roundw
                    case rel => exact ⟨k + 1, _, _, _, by omega, by go_num, hnext⟩
                    case measure => simp [intOf]; omega
                  exact AllReadyH.nil
                exact AllReadyH.nil
              exact AllReadyH.nil
            exact AllReadyH.nil
          exact AllReadyH.nil
        refine stepH 7 rfl (by rfl) (fun K hK => ?_) ?_
        · go_simp
          ((with_reducible refine (copied_any b _ ?_ ?_ (by omega) (by omega)).mono ?_); (exact i1.keep ((Below.refl _ _).drew)); (exact i2.keep ((Below.refl _ _).drew)); rintro e4 w4 ⟨⟨p4, c4, q4, f4, rfl, hn1, hn2⟩, hb4⟩; have hb4' : Below W3.heap.size W3 w4 := below_t ((Below.refl _ W3).drew) hb4; have HS4 := Lib.hid (HS3.out.keep hb4'); have hv4 : Hid (Vals w.heap.size w4 [⟨b.name, p4, c4, b.s, q4, f4, b.d⟩]) := vals_one (hn1.mono hle3) (hn2.mono hle3) i1.i64 i2.i64 (by show b.s.length ≤ 1000000; omega) (by show b.d.length ≤ 1000000; omega) i3; have t04 := HS4.out.own.cell (i := 0) rfl; have hl4 := HS4.out.own.lt; have hn4 : w.heap.size + 1 ≠ w4.heap.size := (by omega); clear hn1 hn2)
          refine hK.out _ _ ?_ (fun hNew => ?_)
          · (try dsimp only); first | exact hS7 | exact hS6 | exact hS5 | exact hKS _ _ (by first | exact hHeld | exact hS) (by first | assumption | (go_grown; done) | (refine from_drew ?_; go_grown; done))
          clear hK K hHeld
          have hHeld := hNew
          clear hNew
          try dsimp only at hHeld
          try simp only [Act.put, List.setIfInBounds_toArray, List.set_cons_zero, List.set_cons_succ]
          refine wpAnyH_ready (rs := [5, 8]) (by kernel_rfl) (by simp) ?_
          refine stepH 5 rfl (by rfl) (fun K hK => ?_) ?_
          · go_simp
            refine hK.out _ _ ?_ (fun hNew => ?_)
            · (try dsimp only); first | exact hS7 | exact hS6 | exact hS5 | exact hKS _ _ (by first | exact hHeld | exact hS) (by first | assumption | (go_grown; done) | (refine from_drew ?_; go_grown; done))
            clear hK K hHeld
            have hHeld := hNew
            clear hNew
            try dsimp only at hHeld
            try simp only [Act.put, List.setIfInBounds_toArray, List.set_cons_zero, List.set_cons_succ]
            refine wpAnyH_ready (rs := [8]) (by kernel_rfl) (by simp) ?_
            refine stepH 8 rfl (by rfl) (fun K hK => ?_) ?_
            · go_simp
              refine hK.out _ _ ?_ (fun hNew => ?_)
              · (try dsimp only); first | exact hS7 | exact hS6 | exact hS5 | exact hKS _ _ (by first | exact hHeld | exact hS) (by first | assumption | (go_grown; done) | (refine from_drew ?_; go_grown; done))
              clear hK K hHeld
              have hHeld := hNew
              clear hNew
              try dsimp only at hHeld
              try simp only [Act.put, List.setIfInBounds_toArray, List.set_cons_zero, List.set_cons_succ]
              refine wpAnyH_ready (rs := [9]) (by kernel_rfl) (by simp) ?_
              refine stepH 9 rfl (by rfl) (fun K hK => ?_) ?_
              · (refine wp_append_lies _ _ _ 45 rfl w.heap.size 62 i0 _ 3 64 Try.underlying45 hi hz0 hz1 hz2 rfl (by decide) (.slice q k cq) k (rowsB cs) rfl (HS4.out.row.alloc _) ⟨w4.heap.size, 0, none⟩ 1 1 [.string b.name, .slice p4 b.s.length c4, .slice q4 b.d.length f4] rfl rfl (World.news_of_block (heap_alloc_new w4 _)) (by simp [Value.oneCell']) (by decide) (by unfold maxLen; omega) (by omega) (by have := HS4.out.below.size; simp; omega) _ rfl ?_); intro g5 cap5 w5 hown5 hgrow5 hat5 hlt5; obtain ⟨own5, map5, val5, bel5⟩ := mid_append HS4.out hv4.out hgrow5; have row5 : w5.ownsRow w.heap.size 62 3 (.slice (some ⟨g5, 0, none⟩) (k + 1) cap5) (k + 1) (rowsB (cs ++ [⟨b.name, p4, c4, b.s, q4, f4, b.d⟩])) := (by rw [rowsB_append]; exact hown5); have hS5 := hKm _ w5 hHeld hgrow5.size (own5.cell (i := 1) rfl) (hgrow5.block wr.heap.size (Nat.lt_of_lt_of_le hbl (by have := hb4'.size; simp; omega)) (fun e => by have := (HS.out.row.lt _ e.symm).2; omega)); have c50 := own5.cell (i := 0) rfl; have f50 := own5.frozen 0; obtain ⟨own6, map6, val6, row6, bel6⟩ := mid_set (x := .slice (some ⟨g5, 0, none⟩) (k + 1) cap5) own5 map5 val5 row5 bel5 (Nat.le_succ _); have hS6 := hKm _ (w5.setCell ⟨w.heap.size + 1, 0, none⟩ (.slice (some ⟨g5, 0, none⟩) (k + 1) cap5)) hS5 (by simp) (own6.cell (i := 1) rfl) (Below.heap_setCell _ _ _ _ (by show wr.heap.size ≠ w.heap.size + 1; omega)); have O6 := Lib.hid own6; have M6 := Lib.hid map6; have V6 := Lib.hid val6; have R6 := Lib.hid row6; have B6 := Lib.hid bel6; clear own5 map5 val5 bel5 row5 own6 map6 val6 row6 bel6 hown5 hat5 hgrow5
                refine hK.out _ _ ?_ (fun hNew => ?_)
                · (try dsimp only); first | exact hS7 | exact hS6 | exact hS5 | exact hKS _ _ (by first | exact hHeld | exact hS) (by first | assumption | (go_grown; done) | (refine from_drew ?_; go_grown; done))
                clear hK K hHeld
                have hHeld := hNew
                clear hNew
                try dsimp only at hHeld
                try simp only [Act.put, List.setIfInBounds_toArray, List.set_cons_zero, List.set_cons_succ]
                refine takeH 11 (some 42) (v := ?_) rfl rfl (by kernel_rfl) (by kernel_rfl) (by kernel_rfl) (by rfl) ?_ (by exact hHeld) ?_
                rotate_left
                · intro w hSw; (try dsimp only at hSw); go_simp; try (with_reducible rfl)
                try simp only [Act.put, List.setIfInBounds_toArray, List.set_cons_zero, List.set_cons_succ]
                refine wpAnyH_ready (rs := [12]) (by kernel_rfl) (by simp) ?_
                refine stepH 12 rfl (by rfl) (fun K hK => ?_) ?_
                · go_simp
                  refine hK.out _ _ ?_ (fun hNew => ?_)
                  · (try dsimp only); first | exact hS7 | exact hS6 | exact hS5 | exact hKS _ _ (by first | exact hHeld | exact hS) (by first | assumption | (go_grown; done) | (refine from_drew ?_; go_grown; done))
                  clear hK K hHeld
                  have hHeld := hNew
                  clear hNew
                  try dsimp only at hHeld
                  try simp only [Act.put, List.setIfInBounds_toArray, List.set_cons_zero, List.set_cons_succ]
                  refine wpAnyH_ready (rs := [13]) (by kernel_rfl) (by simp) ?_
                  refine stepH 13 rfl (by rfl) (fun K hK => ?_) ?_
                  · (refine wp_mapUpdate_own _ _ _ 90 rfl 9 3 keyStr Try.underlying90 (plainElem (H := Unit) Try.prog 3) w.heap.size _ _ rfl M6.out (by rw [List.length_map, HS.out.len]; unfold maxLen; omega) _ _ _ rfl rfl hkey _ [] (plainElem_int Try.underlying3 (WalkArith.wf_i64 (by omega))) ?_); intro w7 hown7 hgrow7; obtain ⟨own7, val7, row7, bel7⟩ := mid_map O6.out M6.out V6.out R6.out B6.out (Nat.le_refl _) hgrow7; have hS7 := hKm _ w7 hS6 hgrow7.size (own7.cell (i := 1) rfl) (hgrow7.block wr.heap.size (by have := hS6.2.1.1; exact this) (by simp; omega)); have hnext := Lib.hid (newSt_next HS.out ⟨b.name, p4, c4, b.s, q4, f4, b.d⟩ (by rw [HBE.out]; exact ⟨rfl, rfl, rfl⟩) HG.out own7 val7 row7 bel7 hown7); clear own7 val7 row7 bel7 hown7
                    refine hK.out _ _ ?_ (fun hNew => ?_)
                    · (try dsimp only); first | exact hS7 | exact hS6 | exact hS5 | exact hKS _ _ (by first | exact hHeld | exact hS) (by first | assumption | (go_grown; done) | (refine from_drew ?_; go_grown; done))
                    clear hK K hHeld
                    have hHeld := hNew
                    clear hNew
                    try dsimp only at hHeld
                    try simp only [Act.put, List.setIfInBounds_toArray, List.set_cons_zero, List.set_cons_succ]
                    refine wpAnyH_done (by kernel_rfl) ?_ _
                    refine NoPanic.normal ?_
                    go_wp2_with fail
                    go_roundw
                    case rel => exact ⟨k + 1, _, _, _, by omega, by go_num, hnext⟩
                    case measure => simp [intOf]; omega
                  exact AllReadyH.nil
                exact AllReadyH.nil
              exact AllReadyH.nil
            exact AllReadyH.nil
          refine stepH 8 rfl (by rfl) (fun K hK => ?_) ?_
          · go_simp
            refine hK.out _ _ ?_ (fun hNew => ?_)
            · (try dsimp only); first | exact hS7 | exact hS6 | exact hS5 | exact hKS _ _ (by first | exact hHeld | exact hS) (by first | assumption | (go_grown; done) | (refine from_drew ?_; go_grown; done))
            clear hK K hHeld
            have hHeld := hNew
            clear hNew
            try dsimp only at hHeld
            try simp only [Act.put, List.setIfInBounds_toArray, List.set_cons_zero, List.set_cons_succ]
            refine wpAnyH_ready (rs := [5]) (by kernel_rfl) (by simp) ?_
            refine stepH 5 rfl (by rfl) (fun K hK => ?_) ?_
            · go_simp
              refine hK.out _ _ ?_ (fun hNew => ?_)
              · (try dsimp only); first | exact hS7 | exact hS6 | exact hS5 | exact hKS _ _ (by first | exact hHeld | exact hS) (by first | assumption | (go_grown; done) | (refine from_drew ?_; go_grown; done))
              clear hK K hHeld
              have hHeld := hNew
              clear hNew
              try dsimp only at hHeld
              try simp only [Act.put, List.setIfInBounds_toArray, List.set_cons_zero, List.set_cons_succ]
              refine wpAnyH_ready (rs := [9]) (by kernel_rfl) (by simp) ?_
              refine stepH 9 rfl (by rfl) (fun K hK => ?_) ?_
              · (refine wp_append_lies _ _ _ 45 rfl w.heap.size 62 i0 _ 3 64 Try.underlying45 hi hz0 hz1 hz2 rfl (by decide) (.slice q k cq) k (rowsB cs) rfl (HS4.out.row.alloc _) ⟨w4.heap.size, 0, none⟩ 1 1 [.string b.name, .slice p4 b.s.length c4, .slice q4 b.d.length f4] rfl rfl (World.news_of_block (heap_alloc_new w4 _)) (by simp [Value.oneCell']) (by decide) (by unfold maxLen; omega) (by omega) (by have := HS4.out.below.size; simp; omega) _ rfl ?_); intro g5 cap5 w5 hown5 hgrow5 hat5 hlt5; obtain ⟨own5, map5, val5, bel5⟩ := mid_append HS4.out hv4.out hgrow5; have row5 : w5.ownsRow w.heap.size 62 3 (.slice (some ⟨g5, 0, none⟩) (k + 1) cap5) (k + 1) (rowsB (cs ++ [⟨b.name, p4, c4, b.s, q4, f4, b.d⟩])) := (by rw [rowsB_append]; exact hown5); have hS5 := hKm _ w5 hHeld hgrow5.size (own5.cell (i := 1) rfl) (hgrow5.block wr.heap.size (Nat.lt_of_lt_of_le hbl (by have := hb4'.size; simp; omega)) (fun e => by have := (HS.out.row.lt _ e.symm).2; omega)); have c50 := own5.cell (i := 0) rfl; have f50 := own5.frozen 0; obtain ⟨own6, map6, val6, row6, bel6⟩ := mid_set (x := .slice (some ⟨g5, 0, none⟩) (k + 1) cap5) own5 map5 val5 row5 bel5 (Nat.le_succ _); have hS6 := hKm _ (w5.setCell ⟨w.heap.size + 1, 0, none⟩ (.slice (some ⟨g5, 0, none⟩) (k + 1) cap5)) hS5 (by simp) (own6.cell (i := 1) rfl) (Below.heap_setCell _ _ _ _ (by show wr.heap.size ≠ w.heap.size + 1; omega)); have O6 := Lib.hid own6; have M6 := Lib.hid map6; have V6 := Lib.hid val6; have R6 := Lib.hid row6; have B6 := Lib.hid bel6; clear own5 map5 val5 bel5 row5 own6 map6 val6 row6 bel6 hown5 hat5 hgrow5
                refine hK.out _ _ ?_ (fun hNew => ?_)
                · (try dsimp only); first | exact hS7 | exact hS6 | exact hS5 | exact hKS _ _ (by first | exact hHeld | exact hS) (by first | assumption | (go_grown; done) | (refine from_drew ?_; go_grown; done))
                clear hK K hHeld
                have hHeld := hNew
                clear hNew
                try dsimp only at hHeld
                try simp only [Act.put, List.setIfInBounds_toArray, List.set_cons_zero, List.set_cons_succ]
                refine takeH 11 (some 42) (v := ?_) rfl rfl (by kernel_rfl) (by kernel_rfl) (by kernel_rfl) (by rfl) ?_ (by exact hHeld) ?_
                rotate_left
                · intro w hSw; (try dsimp only at hSw); go_simp; try (with_reducible rfl)
                try simp only [Act.put, List.setIfInBounds_toArray, List.set_cons_zero, List.set_cons_succ]
                refine wpAnyH_ready (rs := [12]) (by kernel_rfl) (by simp) ?_
                refine stepH 12 rfl (by rfl) (fun K hK => ?_) ?_
                · go_simp
                  refine hK.out _ _ ?_ (fun hNew => ?_)
                  · (try dsimp only); first | exact hS7 | exact hS6 | exact hS5 | exact hKS _ _ (by first | exact hHeld | exact hS) (by first | assumption | (go_grown; done) | (refine from_drew ?_; go_grown; done))
                  clear hK K hHeld
                  have hHeld := hNew
                  clear hNew
                  try dsimp only at hHeld
                  try simp only [Act.put, List.setIfInBounds_toArray, List.set_cons_zero, List.set_cons_succ]
                  refine wpAnyH_ready (rs := [13]) (by kernel_rfl) (by simp) ?_
                  refine stepH 13 rfl (by rfl) (fun K hK => ?_) ?_
                  · (refine wp_mapUpdate_own _ _ _ 90 rfl 9 3 keyStr Try.underlying90 (plainElem (H := Unit) Try.prog 3) w.heap.size _ _ rfl M6.out (by rw [List.length_map, HS.out.len]; unfold maxLen; omega) _ _ _ rfl rfl hkey _ [] (plainElem_int Try.underlying3 (WalkArith.wf_i64 (by omega))) ?_); intro w7 hown7 hgrow7; obtain ⟨own7, val7, row7, bel7⟩ := mid_map O6.out M6.out V6.out R6.out B6.out (Nat.le_refl _) hgrow7; have hS7 := hKm _ w7 hS6 hgrow7.size (own7.cell (i := 1) rfl) (hgrow7.block wr.heap.size (by have := hS6.2.1.1; exact this) (by simp; omega)); have hnext := Lib.hid (newSt_next HS.out ⟨b.name, p4, c4, b.s, q4, f4, b.d⟩ (by rw [HBE.out]; exact ⟨rfl, rfl, rfl⟩) HG.out own7 val7 row7 bel7 hown7); clear own7 val7 row7 bel7 hown7
                    refine hK.out _ _ ?_ (fun hNew => ?_)
                    · (try dsimp only); first | exact hS7 | exact hS6 | exact hS5 | exact hKS _ _ (by first | exact hHeld | exact hS) (by first | assumption | (go_grown; done) | (refine from_drew ?_; go_grown; done))
                    clear hK K hHeld
                    have hHeld := hNew
                    clear hNew
                    try dsimp only at hHeld
                    try simp only [Act.put, List.setIfInBounds_toArray, List.set_cons_zero, List.set_cons_succ]
                    refine wpAnyH_done (by kernel_rfl) ?_ _
                    refine NoPanic.normal ?_
                    go_wp2_with fail
                    go_roundw
                    case rel => exact ⟨k + 1, _, _, _, by omega, by go_num, hnext⟩
                    case measure => simp [intOf]; omega
                  exact AllReadyH.nil
                exact AllReadyH.nil
              exact AllReadyH.nil
            exact AllReadyH.nil
          exact AllReadyH.nil
        exact AllReadyH.nil
      · obtain ⟨b, hb⟩ : ∃ b, bth bs k = b := ⟨_, rfl⟩
        have HNR : Hid (¬ RightP bs) := fun h => hgd (h k hlt)
        rw [hb] at c0 c1 c2 i1 i2 i3
        have hki : (k : Int) < (bs.length : Int) := by omega
        have hba := below_alloc wr (.cells #[.string b.name, .slice b.sp b.s.length b.sc, .slice b.dp b.d.length b.dc] 62)
        have b0 : (wr.alloc (.cells #[.string b.name, .slice b.sp b.s.length b.sc, .slice b.dp b.d.length b.dc] 62)).cell? ⟨wr.heap.size, 0, none⟩ = some (.string b.name) := by simp [go_sem]
        have b1 : (wr.alloc (.cells #[.string b.name, .slice b.sp b.s.length b.sc, .slice b.dp b.d.length b.dc] 62)).cell? ⟨wr.heap.size, 1, none⟩ = some (.slice b.sp b.s.length b.sc) := by simp [go_sem]
        have b2 : (wr.alloc (.cells #[.string b.name, .slice b.sp b.s.length b.sc, .slice b.dp b.d.length b.dc] 62)).cell? ⟨wr.heap.size, 2, none⟩ = some (.slice b.dp b.d.length b.dc) := by simp [go_sem]
        obtain ⟨W1, hW1⟩ : ∃ W1, wr.alloc (.cells #[.string b.name, .slice b.sp b.s.length b.sc, .slice b.dp b.d.length b.dc] 62) = W1 := ⟨_, rfl⟩
        have hbl : wr.heap.size < W1.heap.size := by rw [← hW1]; simp
        rw [hW1] at hba b0 b1 b2
        have HS1 := Lib.hid (HS.out.keep hba)
        have t0 := HS.out.own.cell (i := 0) rfl
        have t1 := HS.out.own.cell (i := 1) rfl
        have hbt := HS.out.own.lt
        have hnt : w.heap.size + 1 ≠ wr.heap.size := by omega
        have i1 := i1.keep hba
        have i2 := i2.keep hba
        have hbb := below_t HS.out.below hba
        have HW1 := Lib.hid hW1
        by_cases hdis : ∀ j, j < k → (bth bs j).name ≠ (bth bs k).name
        · have hok : okB b = false := by
            cases ho : okB b with
            | false => rfl
            | true => exact absurd ⟨by rw [hb]; exact ho, hdis⟩ hgd
          have hnn := names_no HS.out.len HS.out.same hdis
          rw [hb] at hnn
          have HOK := Lib.hid hok
          have HNN := Lib.hid hnn
          clear hW1 hok hnn hb hdis hB hgd hba
          go_wp2_with fail
          rw [HW1.out]
          clear t0 t1
          refine (find_no q k cq w.heap.size (cs.map BV.name) b.name HNN.out (by omega) _ HS1.out.map).mono ?_
          rintro e2 W2 ⟨rfl, hb2⟩
          have b0 := (hb2.cell (p := ⟨wr.heap.size, 0, none⟩) hbl).trans b0
          have b1 := (hb2.cell (p := ⟨wr.heap.size, 1, none⟩) hbl).trans b1
          have b2 := (hb2.cell (p := ⟨wr.heap.size, 2, none⟩) hbl).trans b2
          have i1 := i1.keep hb2
          have i2 := i2.keep hb2
          have hbb := below_t hbb hb2
          clear hb2
          go_wp2_with fail
          refine (right_is b false HOK.out _ i1 i2).mono ?_
          rintro e3 W3 ⟨rfl, hb3⟩
          go_wp2_with fail
          go_ret2
          exact newPost_no HNR.out (below_t hbb hb3)
        · obtain ⟨j, hj⟩ := Classical.not_forall.1 hdis
          obtain ⟨hjk, hjn⟩ := Classical.not_imp.1 hj
          have hjn := Classical.not_not.1 hjn
          rw [hb] at hjn
          obtain ⟨f1, f2⟩ := names_yes HS.out.len HS.out.same HS.out.good hjk hjn
          have F1 := Lib.hid f1
          have F2 := Lib.hid f2
          clear hW1 hb hdis hB hgd hba hj hjn f1 f2
          go_wp2_with fail
          rw [HW1.out]
          clear t0 t1
          refine (find_yes q k cq w.heap.size (cs.map BV.name) b.name j F1.out F2.out (by omega) _ HS1.out.map).mono ?_
          rintro e2 W2 ⟨rfl, hb2⟩
          go_wp2_with fail
          go_ret2
          exact newPost_no HNR.out (below_t hbb hb2)
    · have hki : ¬ (k : Int) < (bs.length : Int) := by omega
      have t0 := HS.out.own.cell (i := 0) rfl
      have t1 := HS.out.own.cell (i := 1) rfl
      have hke : k = bs.length := by omega
      have HRI : Hid (RightP bs) := fun j hj => HS.out.good j (by omega)
      have HE : Hid (EnvAt w.heap.size (wr.alloc (.cells #[.slice q k cq, .map (some w.heap.size)] 98)) wr.heap.size cs ∧ SameB bs cs ∧ Below w.heap.size w (wr.alloc (.cells #[.slice q k cq, .map (some w.heap.size)] 98))) := by
        have st := HS.out
        have hba := below_alloc wr (.cells #[.slice q k cq, .map (some w.heap.size)] 98)
        have st2 := st.keep hba
        refine ⟨⟨st.below.size, ⟨q, cq, w.heap.size, ?_, row_new3 st2.row, Nat.le_refl _, st2.map⟩, st2.vals, same_good st.len st.same st.good⟩, ⟨by rw [st.len]; exact hke.symm, fun j hj => st.same j (by omega)⟩, st2.below⟩
        rw [st.len]
        exact Own.made _ _ _ _ rfl
      clear hke
      go_wp2_with fail
      go_ret2
      exact newPost_yes HRI.out HE.out.1 HE.out.2.1 HE.out.2.2

theorem New_yes (p : Option Addr) (c : Nat) (bs : List BV) (hr : RightP bs) (hl : bs.length ≤ 1000000) (w : World) (h : Binds w p bs) :
    Calls Try.prog 25 #[.slice p bs.length c] w fun e w' => (∃ g cs, e = .returned (.tuple #[.pointer (some ⟨g, 0, none⟩), .int .i64 0]) ∧ EnvAt w.heap.size w' g cs ∧ SameB bs cs) ∧ Below w.heap.size w w' :=
  (New_any p c bs hl w h).mono fun e w' ⟨k, hb⟩ => ⟨by
    rcases k with ⟨-, k⟩ | ⟨k, -⟩
    · exact k
    · exact absurd hr k, hb⟩
theorem New_no (p : Option Addr) (c : Nat) (bs : List BV) (hr : ¬ RightP bs) (hl : bs.length ≤ 1000000) (w : World) (h : Binds w p bs) :
    Calls Try.prog 25 #[.slice p bs.length c] w fun e w' => e = .returned (.tuple #[.pointer none, .int .i64 3]) ∧ Below w.heap.size w w' :=
  (New_any p c bs hl w h).mono fun e w' ⟨k, hb⟩ => ⟨by
    rcases k with ⟨k, -⟩ | ⟨-, k⟩
    · exact absurd k hr
    · exact k, hb⟩
end Go.Proofs.Ytolkgjbljdmadaa
