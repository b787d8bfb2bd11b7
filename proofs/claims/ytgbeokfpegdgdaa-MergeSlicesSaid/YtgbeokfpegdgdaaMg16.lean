/- The law MergeSlices, walked. No condition. -/
import Derived.Test.YtgbeokfpegdgdaaMg15
namespace Go.Proofs.Ytgbeokfpegdgdaa
open Go.RowKit Go.Shelf
set_option linter.unusedVariables false
set_option linter.unusedSimpArgs false

theorem append_piece {w : World} {ops : Array Oper} {rest : List Oper} {o : Oper} {a : Act} {Q : Exit → Act → World → Prop} (hgd : o.guard = none) (s x : Operand)
    (ho : o.op = .call { callee := .builtin .append, args := #[s, x], argTypes := #[32, 32] })
    (base : Nat) (v : Value) (n : Nat) (xs : List Value) (hs : a.eval s = v) (hown : w.ownsRow base 36 9 v n xs)
    (g c : Nat) (news : List Value) (hx : a.eval x = .slice (some ⟨g, 0, none⟩) 1 c) (hl : news.length = 9) (hnews : Own w g 36 news) (h1 : ∀ u ∈ news, u.oneCell' = true) (hbig : n + 1 ≤ 1000000) (hbase : base ≤ w.heap.size)
    (h : ∀ v' w', w'.ownsRow base 36 9 v' (n + 1) (xs ++ news) → w.grownBy w' v.ownBlock → wpList Try.prog ops Q rest (a.put o.dst v') w') : wpList Try.prog ops Q (o :: rest) a w := by
  obtain ⟨i, hi, hz, hsize, hbytes⟩ := info_parts info_piece
  refine wpList_append_own w hgd s x 32 ho base 36 i _ 9 120 Try.underlying32 hi hz hsize hbytes rfl (by decide) v n xs hs hown ⟨g, 0, none⟩ 1 c news hx (by omega) ?_ h1 (by unfold maxLen; omega) (by omega) hbase fun v' w' h2 h3 _ => h v' w' h2 h3
  intro j u hu
  rw [Addr.add_lit, Nat.zero_add]
  exact hnews.cell hu

/-- the slices that have been made -/
structure LSt (w : World) (x : PV) (K : Nat) (v : Value) (ys : List PV) (z : World) : Prop where
  row : z.ownsRow w.heap.size 36 9 v ys.length (flatP ys)
  rows : ∀ (i : Nat) (y : PV), ys[i]? = some y → New w.heap.size z y.p 3 (y.lo.map (.int .i64)) ∧ New w.heap.size z y.q 3 (y.hi.map (.int .i64)) ∧ y.g = x.g ∧ Cut x K (i : Int) y
  below : Below w.heap.size w z
theorem LSt.lt {w : World} {x : PV} {K : Nat} {v : Value} {ys : List PV} {z : World} (h : LSt w x K v ys z) : w.heap.size ≤ z.heap.size := h.below.size
theorem LSt.keep {w : World} {x : PV} {K : Nat} {v : Value} {ys : List PV} {z z' : World} (h : LSt w x K v ys z) (hb : Below z.heap.size z z') : LSt w x K v ys z' :=
  ⟨row_keep h.row hb, fun i y hy => ⟨(h.rows i y hy).1.keep' hb, (h.rows i y hy).2.1.keep' hb, (h.rows i y hy).2.2⟩, below_t h.below (hb.mono (Nat.le_refl _))⟩
/-- a row of its own, changed -/
theorem new_set {B B' g i : Nat} {z : World} {p : Option Addr} {vs us : List Value} (h : New B z p 3 vs) (hp : ∀ k, p = some ⟨k, 0, none⟩ → k < g) (v : Value) : New B (z.setCell ⟨g, i, none⟩ v) p 3 vs := by
  rcases h with h | ⟨k, hk, hB, h⟩
  · exact .inl h
  · exact .inr ⟨k, hk, hB, h.other (by have := hp k hk; show g ≠ k; omega) v⟩
/-- a new slice is appended -/
theorem lst_app {w z1 z2 z4 z5 : World} {x y : PV} {K g1 g2 : Nat} {v v' : Value} {ys : List PV} (h : LSt w x K v ys z1) (hb : Below z1.heap.size z1 z2) (hg1 : z1.heap.size ≤ g1) (hg2 : z1.heap.size ≤ g2) (hne : g1 ≠ g2) (o1 : Own z2 g1 3 (x.lo.map (.int .i64))) (o2 : Own z2 g2 3 (x.hi.map (.int .i64))) {a b : Int}
    (h4 : z4 = (z2.setCell ⟨g1, K, none⟩ (.int .i64 a)).setCell ⟨g2, K, none⟩ (.int .i64 b)) (hK1 : K < x.lo.length) (hK2 : K < x.hi.length)
    (hr : z5.ownsRow w.heap.size 36 9 v' (ys.length + 1) (flatP ys ++ y.vals)) {o : Obj} (hg : (z4.alloc o).grownBy z5 v.ownBlock) (hyp : y.p = some ⟨g1, 0, none⟩) (hyq : y.q = some ⟨g2, 0, none⟩) (hyl : y.lo = x.lo.set K a) (hyh : y.hi = x.hi.set K b) (hyg : y.g = x.g) (hc : Cut x K (ys.length : Int) y) :
    LSt w x K v' (ys ++ [y]) z5 := by
  have k2 := h.keep hb
  have hne1 : 36 ≠ 3 := by decide
  have hs1 := h.lt
  have s1 : Below z1.heap.size z1 z4 := by rw [h4]; exact below_set (below_set hb hg1 K _) hg2 K _
  have k4 := h.keep s1
  have s5 := below_alloc z4 o
  have k5 := k4.keep s5
  have O1 : Own z4 g1 3 ((x.lo.set K a).map (.int .i64)) := by
    rw [h4, ← map_set]
    exact (o1.set (i := K) (by simpa using hK1) _).other (a := ⟨g2, K, none⟩) (fun e => hne e.symm) _
  have O2 : Own z4 g2 3 ((x.hi.set K b).map (.int .i64)) := by
    rw [h4, ← map_set]
    exact (o2.other (a := ⟨g1, K, none⟩) hne _).set (i := K) (by simpa using hK2) _
  have N1 : New w.heap.size (z4.alloc o) y.p 3 (y.lo.map (.int .i64)) := by rw [hyl]; exact .inr ⟨g1, hyp, by omega, O1.keep s5 O1.lt⟩
  have N2 : New w.heap.size (z4.alloc o) y.q 3 (y.hi.map (.int .i64)) := by rw [hyh]; exact .inr ⟨g2, hyq, by omega, O2.keep s5 O2.lt⟩
  refine ⟨?_, fun i u hu => ?_, k5.below.grown hg k5.lt (fun k hk => (row_lt k5.row hk).1)⟩
  · rw [List.length_append]
    simpa [flatP] using hr
  · by_cases hi : i < ys.length
    · rw [List.getElem?_append_left hi] at hu
      obtain ⟨r1, r2, r3, r4⟩ := k5.rows i u hu
      exact ⟨r1.grownE k5.row hne1 hg, r2.grownE k5.row hne1 hg, r3, r4⟩
    · rw [List.getElem?_append_right (by omega)] at hu
      have hi0 := (List.getElem?_eq_some_iff.1 hu).1
      have hi1 : i = ys.length := by simp at hi0; omega
      subst hi1
      have e : y = u := by simpa using hu
      subst e
      exact ⟨N1.grownE k5.row hne1 hg, N2.grownE k5.row hne1 hg, hyg, hc⟩
theorem Small6_is (x : PV) (r : Bool) (hr : smallX x.lo x.hi 200 = r) (w : World) (hx : PVI w x) :
    Calls Try.prog 6 #[.agg #[.slice x.p x.lo.length x.c, .slice x.q x.hi.length x.f], .int .i64 200] w fun e w' => e = .returned (.bool r) ∧ Below w.heap.size w w' := RefSmall6_any x.p x.q x.c x.f x.lo x.hi 200 (by omega) r hr w hx.lo hx.hi

theorem row_pos {a : World} {B size n : Nat} {e : TypeId} {v : Value} {xs : List Value} (h : a.ownsRow B e size v n xs) (hn : 0 < n) : ∃ g cap, v = .slice (some ⟨g, 0, none⟩) n cap ∧ B ≤ g ∧ Own a g e xs := by
  obtain ⟨m, rfl⟩ : ∃ m, n = m + 1 := ⟨n - 1, by omega⟩
  obtain ⟨g, cap, rfl, -, -⟩ := row_slice h
  exact ⟨g, cap, rfl, (row_lt h (j := g) rfl).1, row_own h rfl⟩
def TrueRet (w : World) (e : Ending) (w' : World) : Prop := e = .returned (.bool true) ∧ Below w.heap.size w w'
set_option maxRecDepth 100000 in
set_option maxHeartbeats 1500000 in
theorem MergeSlices_walk (x : PV) (a : Int) (w : World) (hx : PVI w x) (ha : 0 ≤ a ∧ a ≤ 255) :
    Calls Try.prog 3 #[.agg #[.slice x.p x.lo.length x.c, .slice x.q x.hi.length x.f, .int .i64 x.k, .int .i64 x.b, .int .i64 x.e, .slice x.g x.s.length x.d, .int .i64 x.st, .int .i64 x.sp, .int .i64 x.md], .int .u8 a] w (TrueRet w) := by
  have b1 := below_alloc w (.cells #[.slice x.p x.lo.length x.c, .slice x.q x.hi.length x.f, .int .i64 x.k, .int .i64 x.b, .int .i64 x.e, .slice x.g x.s.length x.d, .int .i64 x.st, .int .i64 x.sp, .int .i64 x.md] 28)
  have A := At9.new w _ x 28 rfl
  have ix := hx.keep b1
  go_enter Try.func3, Try.ntmps3
  go_wp2_with fail
  refine (awake22 _).mono ?_
  rintro e1 w1 ⟨rfl, hb1⟩
  have hb := b1
  clear b1
  have A := A.keep hb1
  have ix := ix.keep hb1
  have hb := below_t hb hb1
  clear hb1
  have hA0 := A.c0
  have hA1 := A.c1
  have hA2 := A.c2
  have hA3 := A.c3
  have hA4 := A.c4
  have hA5 := A.c5
  have hA6 := A.c6
  have hA7 := A.c7
  have hA8 := A.c8
  go_wp2_with fail
  refine (Alike_any x _ ix).mono ?_
  rintro e2 w2 ⟨⟨o, rfl, hfull⟩, hb2⟩
  clear hA0
  clear hA1
  clear hA2
  clear hA3
  clear hA4
  clear hA5
  clear hA6
  clear hA7
  clear hA8
  have A := A.keep hb2
  have ix := ix.keep hb2
  have hb := below_t hb hb2
  clear hb2
  cases o with
  | false =>
    clear A ix
    go_wp2_with fail
    refine (awake22 _).mono ?_
    rintro e3 w3 ⟨rfl, hb3⟩
    go_wp2_with fail
    go_ret
    exact ⟨rfl, below_t hb hb3⟩
  | true =>
    have HF := Lib.hid (hfull rfl)
    clear hfull
    have hA0 := A.c0
    have hA1 := A.c1
    cases hsm : smallX x.lo x.hi 200 with
    | false =>
      go_wp2_with fail
      refine (Small6_is x false hsm _ ix).mono ?_
      rintro e3 w3 ⟨rfl, hb3⟩
      clear hA0 hA1
      have hb := below_t hb hb3
      clear hb3
      clear A ix
      go_wp2_with fail
      refine (awake22 _).mono ?_
      rintro e4 w4 ⟨rfl, hb4⟩
      go_wp2_with fail
      go_ret
      exact ⟨rfl, below_t hb hb4⟩
    | true =>
      have HS := Lib.hid hsm
      clear hsm
      go_wp2_with fail
      refine (Small6_is x true HS.out _ ix).mono ?_
      rintro e3 w3 ⟨rfl, hb3⟩
      clear hA0 hA1
      have A := A.keep hb3
      have ix := ix.keep hb3
      have hb := below_t hb hb3
      clear hb3
      have hA0 := A.c0
      by_cases h0 : x.lo.length = 0
      · have hz : ((x.lo.length : Int) == 0) = true := by rw [h0]; rfl
        clear h0
        go_wp2_with fail
        refine (awake22 _).mono ?_
        rintro e4 w4 ⟨rfl, hb4⟩
        go_wp2_with fail
        go_ret
        exact ⟨rfl, below_t hb hb4⟩
      · have hz : ((x.lo.length : Int) == 0) = false := by rw [beq_eq_false_iff_ne]; omega
        obtain ⟨K, hmod, hK⟩ : ∃ K : Nat, a % (x.lo.length : Int) = (K : Int) ∧ K < x.lo.length := by
          have h1 := Int.emod_nonneg a (b := (x.lo.length : Int)) (by omega)
          have h2 := Int.emod_lt_of_pos a (b := (x.lo.length : Int)) (by omega)
          exact ⟨(a % (x.lo.length : Int)).toNat, by omega, by omega⟩
        have hr := HF.out.right
        have hfk := HF.out.full K hK
        have hrk := hr.2.2 K hK
        have hlh := hr.1
        obtain ⟨u, hu⟩ : ∃ u, nth x.lo K = u := ⟨_, rfl⟩
        obtain ⟨v, hv⟩ : ∃ v, nth x.hi K = v := ⟨_, rfl⟩
        have hK2 : K < x.hi.length := by omega
        obtain ⟨b1, o1, ep, hb1l, hc1⟩ := ix.lo.at hK
        obtain ⟨b2, o2, eq, hb2l, hc2⟩ := ix.hi.at hK2
        rw [hu] at hc1 hfk hrk
        rw [hv] at hc2 hfk hrk
        obtain ⟨m, hm, hm0⟩ : ∃ m : Nat, v = u + (m : Int) ∧ 0 < m := ⟨(v - u).toNat, by omega, by omega⟩
        have hA0' := hA0
        rw [ep] at hA0
        have hi1 : (K : Int) < (x.lo.length : Int) := by omega
        have hi2 : (K : Int) < (x.hi.length : Int) := by omega
        have LH := Lib.hid hlh
        have HU := Lib.hid hu
        have HV := Lib.hid hv
        have HM := Lib.hid hm
        have HRK := Lib.hid hrk
        have EP := Lib.hid ep
        have EQ := Lib.hid eq
        clear hA0' hr hfk hlh hu hv hm hrk h0
        have hA0'' := A.c0
        go_upto_region 4 with fail
        rw [hmod]
        clear hmod hA0''
        go_wp2_with fail
        have IX := Lib.hid ix
        have hs64 : Hid (∀ u ∈ x.s, I64 u) := ix.s.i64
        have hA1 := A.c1
        rw [eq] at hA1
        have hL0 : Hid (LSt w3 x K (.slice none 0 0) [] w3) := ⟨World.ownsRow_nil _ _ _ _, fun i y hy => by simp at hy, Below.refl _ _⟩
        have AH := Lib.hid A
        have hAlt := A.lt
        clear A ix ep eq
        go_loopw [6, 7] (fun l n wr => ∃ (j : Nat) (n' : Int) (vl : Value) (ys : List PV) (wz : World), wz = wr ∧ vl = l ∧ n = .int .i64 n' ∧ Hid (n' = u + (j : Int)) ∧ j ≤ m ∧ Hid (ys.length = j) ∧ Hid (LSt w3 x K vl ys wz)) (fun _ n _ => (v - intOf n).toNat)
        case atStart => exact ⟨0, u, _, [], w3, rfl, rfl, rfl, by simp [Hid], Nat.zero_le _, rfl, hL0⟩
        case round =>
          obtain ⟨j, n', vl, ys, wz, rfl, rfl, rfl, hN, hj, hJ, HL⟩ := hrel
          have hbz := HL.out.below
          have hA0 := (hbz.cell (p := ⟨w.heap.size, 0, none⟩) hAlt).trans hA0
          have hA1 := (hbz.cell (p := ⟨w.heap.size, 1, none⟩) hAlt).trans hA1
          have hc2 := (hbz.cell (p := ⟨b2, o2 + K, none⟩) hb2l).trans hc2
          by_cases hlt : n' < v
          · have hjm : j < m := by
              have := hN.out
              have := HM.out
              omega
            have IZ := Lib.hid (IX.out.keep hbz)
            have AZ := Lib.hid (AH.out.keep hbz)
            have h64 : -9223372036854775808 ≤ n' + 1 ∧ n' + 1 ≤ 9223372036854775807 := by
              have := HRK.out
              have := hN.out
              omega
            have hw1 : wrap64 (n' + 1) = n' + 1 := wrap64_id h64.1 h64.2
            have hw2 : IntKind.i64.wrap (n' + 1) = n' + 1 := by
              have := hw1
              unfold wrap64 at this
              exact (IntKind.wrap_i64 _).trans this
            have HXL : Hid (x.lo.length ≤ 16) := HF.out.right.2.1
            have hzA : w.heap.size < wz.heap.size := Nat.lt_of_lt_of_le hAlt hbz.size
            have hA0o := fun o => ((below_alloc wz o).cell (p := ⟨w.heap.size, 0, none⟩) hzA).trans hA0
            clear h64 hbz
            go_upto_region 9 with (
                         at_builtin
                         refine append_ints rfl _ _ rfl wz.heap.size _ 0 [] rfl (World.ownsRow_lit wz #[] 0 (Nat.le_refl _) (by decide) rfl) (some ⟨b1, o1, none⟩) x.c x.lo rfl (by rw [← EP.out]; exact IZ.out.lo.cells.keep ((Below.refl _ _).alloc (Nat.le_refl _) _)) (by have := HXL.out; omega) (by simp) ?_
                         intro v8 z8 own8 hg8
                         have own8' : z8.ownsRow wz.heap.size 3 1 v8 x.lo.length (x.lo.map (.int .i64)) := by simpa using own8
                         obtain ⟨g1, c8, rfl, hg1, ow1⟩ := row_pos own8' (by omega)
                         have hb8 : Below wz.heap.size wz z8 := ((Below.refl _ wz).alloc (Nat.le_refl _) _).grown hg8 (by simp) (fun k hk => by cases hk; exact Nat.le_refl _)
                         have hzA8 := Nat.lt_of_lt_of_le hzA hb8.size
                         have hA1z := (hb8.cell (p := ⟨w.heap.size, 1, none⟩) hzA).trans hA1
                         have hA1q : (z8.alloc (.cells #[] 3)).cell? ⟨w.heap.size, 1, none⟩ = some (.slice (some ⟨b2, o2, none⟩) x.hi.length x.f) := ((below_alloc z8 _).cell (p := ⟨w.heap.size, 1, none⟩) hzA8).trans hA1z
                         have IZ8 := Lib.hid (IZ.out.keep hb8)
                         have AZ8 := Lib.hid (AZ.out.keep hb8)
                         have OW1 := Lib.hid ow1
                         have HB8 := Lib.hid hb8
                         clear own8 own8' hg8 hb8 hA0o hA0 hA1 hc2 ow1)
            go_upto_region 12 with (
                         at_builtin
                         refine append_ints rfl _ _ rfl z8.heap.size _ 0 [] rfl (World.ownsRow_lit z8 #[] 0 (Nat.le_refl _) (by decide) rfl) (some ⟨b2, o2, none⟩) x.f x.hi rfl (by rw [← EQ.out]; exact IZ8.out.hi.cells.keep ((Below.refl _ _).alloc (Nat.le_refl _) _)) (by have := HXL.out; have := LH.out; omega) (by simp) ?_
                         intro v9 z9 own9 hg9
                         have own9' : z9.ownsRow z8.heap.size 3 1 v9 x.hi.length (x.hi.map (.int .i64)) := by simpa using own9
                         obtain ⟨g2, c9, rfl, hg2, ow2⟩ := row_pos own9' (by have := LH.out; omega)
                         have hb9 : Below z8.heap.size z8 z9 := ((Below.refl _ z8).alloc (Nat.le_refl _) _).grown hg9 (by simp) (fun k hk => by cases hk; exact Nat.le_refl _)
                         have ow1 := OW1.out.keep hb9 OW1.out.lt
                         have AZ9 := AZ8.out.keep hb9
                         have hlt1 := OW1.out.lt
                         have hne : g1 ≠ g2 := by omega
                         have hne' : g2 ≠ g1 := by omega
                         have hn1 : g1 ≠ w.heap.size := by omega
                         have hn2 : g2 ≠ w.heap.size := by omega
                         have k1 : z9.cell? ⟨g1, K, none⟩ = some (.int .i64 (nth x.lo K)) := ow1.cell (nth_map hK)
                         have k2 : z9.cell? ⟨g2, K, none⟩ = some (.int .i64 (nth x.hi K)) := ow2.cell (nth_map hK2)
                         have f1 := ow1.frozen K
                         have f2 := ow2.frozen K
                         have HB9 := Lib.hid (below_t HB8.out hb9)
                         have HG1 := Lib.hid hg1
                         have HG2 := Lib.hid (Nat.le_trans HB8.out.size hg2)
                         have OW1 := Lib.hid ow1
                         have OW2 := Lib.hid ow2
                         have HNE := Lib.hid hne
                         have A9 := Lib.hid AZ9
                         have hA2 := AZ9.c2
                         have hA3 := AZ9.c3
                         have hA4 := AZ9.c4
                         have hA5 := AZ9.c5
                         have hA6 := AZ9.c6
                         have hA7 := AZ9.c7
                         have hA8 := AZ9.c8
                         clear own9 own9' hg9 hb9 hA1z hA1q hg1 hg2 ow1 ow2 hlt1 hzA8 AZ9)
            obtain ⟨z4, hz4⟩ : ∃ z4, (z9.setCell ⟨g1, K, none⟩ (.int .i64 n')).setCell ⟨g2, K, none⟩ (.int .i64 (n' + 1)) = z4 := ⟨_, rfl⟩
            rw [hz4]
            have HZ4 := Lib.hid hz4.symm
            have K4 : Hid (LSt w3 x K vl ys z4) := HL.out.keep (by rw [← hz4]; exact below_set (below_set HB9.out HG1.out K _) HG2.out K _)
            have b2 : z4.cell? ⟨w.heap.size, 2, none⟩ = some (.int .i64 x.k) := by rw [← hz4, World.cell?_setCell_far _ _ _ _ hn2, World.cell?_setCell_far _ _ _ _ hn1]; exact hA2
            have b3 : z4.cell? ⟨w.heap.size, 3, none⟩ = some (.int .i64 x.b) := by rw [← hz4, World.cell?_setCell_far _ _ _ _ hn2, World.cell?_setCell_far _ _ _ _ hn1]; exact hA3
            have b4 : z4.cell? ⟨w.heap.size, 4, none⟩ = some (.int .i64 x.e) := by rw [← hz4, World.cell?_setCell_far _ _ _ _ hn2, World.cell?_setCell_far _ _ _ _ hn1]; exact hA4
            have b5 : z4.cell? ⟨w.heap.size, 5, none⟩ = some (.slice x.g x.s.length x.d) := by rw [← hz4, World.cell?_setCell_far _ _ _ _ hn2, World.cell?_setCell_far _ _ _ _ hn1]; exact hA5
            have b6 : z4.cell? ⟨w.heap.size, 6, none⟩ = some (.int .i64 x.st) := by rw [← hz4, World.cell?_setCell_far _ _ _ _ hn2, World.cell?_setCell_far _ _ _ _ hn1]; exact hA6
            have b7 : z4.cell? ⟨w.heap.size, 7, none⟩ = some (.int .i64 x.sp) := by rw [← hz4, World.cell?_setCell_far _ _ _ _ hn2, World.cell?_setCell_far _ _ _ _ hn1]; exact hA7
            have b8 : z4.cell? ⟨w.heap.size, 8, none⟩ = some (.int .i64 x.md) := by rw [← hz4, World.cell?_setCell_far _ _ _ _ hn2, World.cell?_setCell_far _ _ _ _ hn1]; exact hA8
            clear hz4 hA2 hA3 hA4 hA5 hA6 hA7 hA8 k1 k2 f1 f2 hne hne' hn1 hn2
            have hys : ys.length + 1 ≤ 1000000 := by
              have := hJ.out
              have := HRK.out
              have := HM.out
              omega
            go_wp2_with (at_builtin; refine append_piece rfl _ _ rfl w3.heap.size vl ys.length (flatP ys) rfl (K4.out.keep (below_alloc z4 (.cells #[.slice (some ⟨g1, 0, none⟩) x.lo.length c8, .slice (some ⟨g2, 0, none⟩) x.hi.length c9, .int .i64 x.k, .int .i64 x.b, .int .i64 x.e, .slice x.g x.s.length x.d, .int .i64 x.st, .int .i64 x.sp, .int .i64 x.md] 36))).row z4.heap.size 1 [.slice (some ⟨g1, 0, none⟩) x.lo.length c8, .slice (some ⟨g2, 0, none⟩) x.hi.length c9, .int .i64 x.k, .int .i64 x.b, .int .i64 x.e, .slice x.g x.s.length x.d, .int .i64 x.st, .int .i64 x.sp, .int .i64 x.md] rfl rfl (Own.made z4 _ [_, _, _, _, _, _, _, _, _] _ rfl) (by intro u hu; simp only [List.mem_cons, List.not_mem_nil, or_false] at hu; rcases hu with rfl | rfl | rfl | rfl | rfl | rfl | rfl | rfl | rfl <;> rfl) hys (by have := K4.out.lt; simp; omega) ?_; intro v5 z5 hr5 hg5)
            have hL5 : Hid (LSt w3 x K v5 (ys ++ [⟨some ⟨g1, 0, none⟩, c8, x.lo.set K n', some ⟨g2, 0, none⟩, c9, x.hi.set K (n' + 1), x.k, x.b, x.e, x.g, x.d, x.s, x.st, x.sp, x.md⟩]) z5) := by
              refine lst_app HL.out HB9.out HG1.out HG2.out HNE.out OW1.out OW2.out HZ4.out hK hK2 (y := ⟨some ⟨g1, 0, none⟩, c8, x.lo.set K n', some ⟨g2, 0, none⟩, c9, x.hi.set K (n' + 1), x.k, x.b, x.e, x.g, x.d, x.s, x.st, x.sp, x.md⟩) ?_ hg5 rfl rfl rfl rfl rfl ⟨?_, ?_, ⟨rfl, rfl, rfl, rfl, rfl, rfl, rfl⟩⟩
              · simpa [PV.vals] using hr5
              · show x.lo.set K n' = _
                rw [HU.out, hJ.out, hN.out]
              · show x.hi.set K (n' + 1) = _
                rw [HU.out, hJ.out, hN.out]
            clear hr5 hg5 b2 b3 b4 b5 b6 b7 b8
            go_wp2_with fail
            go_roundw
            case rel => exact ⟨j + 1, n' + 1, v5, ys ++ [⟨some ⟨g1, 0, none⟩, c8, x.lo.set K n', some ⟨g2, 0, none⟩, c9, x.hi.set K (n' + 1), x.k, x.b, x.e, x.g, x.d, x.s, x.st, x.sp, x.md⟩], z5, rfl, rfl, by go_num, by have := hN.out; rw [Hid]; omega, by omega, by have := hJ.out; rw [Hid, List.length_append]; simp; omega, hL5⟩
            case measure => simp [intOf]; omega
          · have hjm : j = m := by
              have := hN.out
              have := HM.out
              omega
            have hyl : ys.length = m := by rw [hJ.out, hjm]
            obtain ⟨gl, cl, rfl, -, hol⟩ := row_pos HL.out.row (by omega)
            have IZ := Lib.hid (IX.out.keep hbz)
            have AZ := Lib.hid (AH.out.keep hbz)
            have hbw := Lib.hid (below_t hb hbz)
            have hys : ys.length ≤ 1000000 := by
              have := HRK.out
              have := HM.out
              omega
            have hcut : ∀ (i : Nat) (y : PV), ys[i]? = some y → Cut x K (i : Int) y := fun i y hy => (HL.out.rows i y hy).2.2.2
            have hlink : Linked ys := cut_linked HF.out.right HF.out.s hs64.out hK hcut (by have := HM.out; rw [HU.out, HV.out]; omega)
            have HCUT := Lib.hid hcut
            have HLINK := Lib.hid hlink
            have hpv : Hid (∀ y ∈ ys, PVI wz y ∧ PVS y) := fun y hy => by
              obtain ⟨i, hi, rfl⟩ := List.mem_iff_getElem.1 hy
              obtain ⟨r1, r2, r3, r4⟩ := HL.out.rows i ys[i] (List.getElem?_eq_getElem hi)
              have hs := cut_small HF.out.right HF.out.s hs64.out hK r4 (by omega) (by have := HM.out; rw [HU.out, HV.out]; omega)
              exact ⟨⟨r1.ints hs.lo (by have := hs.ll; omega), r2.ints hs.hi (by have := hs.lh; omega), by rw [r3, r4.acc.s]; exact IZ.out.s⟩, hs⟩
            have hy0 : 0 < ys.length := by omega
            have HOL := Lib.hid hol
            have HYL := Lib.hid hyl
            have HJM := Lib.hid hjm
            clear hcut hlink hol hyl hjm
            go_wp2_with fail
            refine (Merge_any ys HLINK.out hy0 hys gl cl wz HOL.out hpv.out).mono ?_
            rintro e5 w5 ⟨⟨gm, cm, z, a0, u0, rfl, ha0, hu0, hgl, hom, hnz⟩, hb5⟩
            have hlast := HCUT.out _ _ hu0
            have hmm : nth x.lo K + ((ys.length - 1 : Nat) : Int) + 1 = nth x.hi K := by
              have h1 := HYL.out
              have h2 := HM.out
              rw [HU.out, HV.out]
              omega
            have htw : Twin z x := cut_whole HF.out.right hK (HCUT.out 0 a0 ha0) hlast hmm hgl
            have HTW := Lib.hid htw
            have HB5 := Lib.hid (below_t hbw.out hb5)
            have hx5 : Hid (PVI w5 x) := IZ.out.keep hb5
            have A5 := Lib.hid (AZ.out.keep hb5)
            have hz5 : Hid (PVI w5 z) := by
              have hl := HTW.out
              have e3 := hl.acc.s
              refine ⟨hnz.lo.ints (by rw [← hl.lo]; exact hx5.out.lo.i64) ?_, hnz.hi.ints (by rw [← hl.hi]; exact hx5.out.hi.i64) ?_, hnz.s.ints (by rw [← e3]; exact hs64.out) ?_⟩
              · rw [← hl.lo]; exact hx5.out.lo.small
              · rw [← hl.hi]; exact hx5.out.hi.small
              · rw [← e3]; exact hx5.out.s.small
            have HOM := Lib.hid hom
            clear hlast hmm htw hom hnz hgl hu0 ha0 hb5 hA0 hA1 hc2
            go_wp2_with fail
            refine (Back_one z gm cm w5 HOM.out).mono ?_
            rintro e6 w6 ⟨⟨gb, cb, rfl, hob⟩, hb6⟩
            have A6 := A5.out.keep hb6
            have HB6 := Lib.hid (below_t HB5.out hb6)
            have bx := below_alloc w6 (.cells #[.slice x.p x.lo.length x.c, .slice x.q x.hi.length x.f, .int .i64 x.k, .int .i64 x.b, .int .i64 x.e, .slice x.g x.s.length x.d, .int .i64 x.st, .int .i64 x.sp, .int .i64 x.md] 28)
            have hx6 := Lib.hid ((hx5.out.keep hb6).keep bx)
            have hz6 := Lib.hid ((hz5.out.keep hb6).keep bx)
            have hob6 := Lib.hid (hob.keep bx hob.lt)
            have HB7 := Lib.hid (below_t HB6.out bx)
            clear hb6 hob bx
            have hA60 := A6.c0
            have hA61 := A6.c1
            have hA62 := A6.c2
            have hA63 := A6.c3
            have hA64 := A6.c4
            have hA65 := A6.c5
            have hA66 := A6.c6
            have hA67 := A6.c7
            have hA68 := A6.c8
            go_wp2_with fail
            refine (Same_one x z HTW.out gb cb w6.heap.size 1 _ hob6.out (Own.made w6 _ [_, _, _, _, _, _, _, _, _] _ rfl) hz6.out hx6.out).mono ?_
            rintro e7 w7 ⟨rfl, hb7⟩
            clear hA60
            clear hA61
            clear hA62
            clear hA63
            clear hA64
            clear hA65
            clear hA66
            clear hA67
            clear hA68
            go_wp2_with fail
            go_ret
            exact ⟨rfl, below_t HB7.out hb7⟩
theorem MergeSlices_law (x : PV) (a : Int) (w : World) (hx : PVI w x) (ha : 0 ≤ a ∧ a ≤ 255) :
    Calls Try.prog 3 #[.agg #[.slice x.p x.lo.length x.c, .slice x.q x.hi.length x.f, .int .i64 x.k, .int .i64 x.b, .int .i64 x.e, .slice x.g x.s.length x.d, .int .i64 x.st, .int .i64 x.sp, .int .i64 x.md], .int .u8 a] w fun e w' => e = .returned (.bool true) ∧ Below w.heap.size w w' := MergeSlices_walk x a w hx ha
end Go.Proofs.Ytgbeokfpegdgdaa
