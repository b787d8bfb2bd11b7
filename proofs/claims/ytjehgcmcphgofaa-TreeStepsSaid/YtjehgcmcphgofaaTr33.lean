/- awake. No condition beyond what each says. -/
import Derived.Test.YtjehgcmcphgofaaTr32
namespace Go.Proofs.Ytjehgcmcphgofaa
open Go.RowKit Go.Shelf
set_option linter.unusedVariables false
set_option linter.unusedSimpArgs false
attribute [local go_sem] Oper.semAt_some

set_option maxRecDepth 100000 in
set_option maxHeartbeats 4000000 in
theorem awake08 (w : World) : Calls Try.prog 8 #[] w fun e w' => e = .returned (.bool true) ∧ Below w.heap.size w w' := by
  obtain ⟨W1, R, T, hR, hT, hW1, oX, oR, oT, hb1, hs1⟩ := aw_first w
  have HW1 := Lib.hid hW1
  have HR := Lib.hid hR
  have HT := Lib.hid hT
  have HS1 : Hid (R = w.heap.size + 1 ∧ T = R + 1 ∧ W1.heap.size = w.heap.size + 3) := ⟨hR, hT, hs1⟩
  have HX := Lib.hid oX
  have HOR := Lib.hid oR
  have HOT := Lib.hid oT
  have HB1 := Lib.hid hb1
  clear hW1 hR hT hs1 oX oR oT hb1
  refine (callsIn_wide (n := 4)).1 ?_
  refine callsIn_of_wp_marks Try.func8 rfl trivial ?_ rfl
  simp only [Try.ntmps8, List.size_toArray, List.length_cons, List.length_nil, Nat.reduceAdd, Nat.reduceSub, Array.replicate_succ, Array.replicate_zero, List.push_toArray, List.append_toArray, List.nil_append, List.cons_append]
  refine wpIn_wide.2 ?_
  go_wp2_with fail
  rw [← HR.out, ← HT.out, HW1.out]
  clear HW1 HR HT
  refine (name_any ⟨#[120]⟩ W1).mono ?_
  rintro e2 w2 ⟨rfl, hb2⟩
  have HB2 := Lib.hid (HB1.out.trans (hb2.mono HB1.out.size))
  have HX := Lib.hid (HX.out.keep hb2 HX.out.lt)
  have HOR := Lib.hid (HOR.out.keep hb2 HOR.out.lt)
  have HOT := Lib.hid (HOT.out.keep hb2 HOT.out.lt)
  clear hb2
  go_wp2_with fail
  refine (name_any ⟨#[121]⟩ w2).mono ?_
  rintro e3 w3 ⟨rfl, hb3⟩
  have HB3 := Lib.hid (HB2.out.trans (hb3.mono HB2.out.size))
  have oX := HX.out.keep hb3 HX.out.lt
  have oR := HOR.out.keep hb3 HOR.out.lt
  have oT := HOT.out.keep hb3 HOT.out.lt
  have hs := HS1.out
  have hlt := oT.lt
  obtain ⟨V4, W4, B, b1, b2, b3, b4, b5, hB, e1, e2, e3, e4, e5, hV4, hW4, z1, zT, hsV, hAT, o1, o3, o5, hb4, hs4⟩ := aw_second w.heap.size R T w3 (by omega) (by omega) hlt oR oT
  have t0 : w3.cell? ⟨T, 0, none⟩ = some (.int .i64 1) := oT.cell (i := 0) rfl
  have t1 : w3.cell? ⟨T, 1, none⟩ = some (.int .i64 0) := oT.cell (i := 1) rfl
  have t2 : w3.cell? ⟨T, 2, none⟩ = some (.int .i64 (-1)) := oT.cell (i := 2) rfl
  have t3 : w3.cell? ⟨T, 3, none⟩ = some (.string ⟨#[]⟩) := oT.cell (i := 3) rfl
  have t4 : w3.cell? ⟨T, 4, none⟩ = some (.slice (some ⟨R, 0, none⟩) 1 1) := oT.cell (i := 4) rfl
  have t5 : w3.cell? ⟨T, 5, none⟩ = some (.slice none 0 0) := oT.cell (i := 5) rfl
  have HX := Lib.hid oX
  have HV4 := Lib.hid hV4
  have HW4 := Lib.hid hW4
  have HAT := Lib.hid hAT
  have HO1 := Lib.hid o1
  have HO3 := Lib.hid o3
  have HO5 := Lib.hid o5
  have HB4 := Lib.hid hb4
  have HZ1 := Lib.hid z1
  have HZT := Lib.hid zT
  have HE : Hid (w3.heap.size = B ∧ B + 1 = b1 ∧ b1 + 1 = b2 ∧ b2 + 1 = b3 ∧ b3 + 1 = b4 ∧ b4 + 1 = b5 ∧ W4.heap.size = b5 + 1) := ⟨hB.symm, e1.symm, e2.symm, e3.symm, e4.symm, e5.symm, hs4⟩
  have HSV := Lib.hid hsV
  have heq := run_eql_seq
  have n0 : T ≠ w3.heap.size := by omega
  have n1 : T ≠ w3.heap.size + 1 := by omega
  clear hV4 hW4 hAT o1 o3 o5 hb4 hs4 hB e1 e2 e3 e4 e5 oX oR oT hs hb3 z1 zT hsV
  go_upto_region 4 with fail
  rw [HE.out.1, HE.out.2.1, HE.out.2.2.1, HE.out.2.2.2.1]
  rw [HV4.out]
  clear t0 t1 t2 t3 t4 t5 n0 n1
  have t0 : V4.cell? ⟨T, 0, none⟩ = some (.int .i64 1) := HZT.out.cell (i := 0) rfl
  have t1 : V4.cell? ⟨T, 1, none⟩ = some (.int .i64 0) := HZT.out.cell (i := 1) rfl
  have t2 : V4.cell? ⟨T, 2, none⟩ = some (.int .i64 (-1)) := HZT.out.cell (i := 2) rfl
  have t3 : V4.cell? ⟨T, 3, none⟩ = some (.string ⟨#[]⟩) := HZT.out.cell (i := 3) rfl
  have t4 : V4.cell? ⟨T, 4, none⟩ = some (.slice (some ⟨R, 0, none⟩) 1 1) := HZT.out.cell (i := 4) rfl
  have t5 : V4.cell? ⟨T, 5, none⟩ = some (.slice none 0 0) := HZT.out.cell (i := 5) rfl
  have u0 : V4.cell? ⟨b1, 0, none⟩ = some (.int .i64 4) := HZ1.out.cell (i := 0) rfl
  have u1 : V4.cell? ⟨b1, 1, none⟩ = some (.int .i64 6) := HZ1.out.cell (i := 1) rfl
  have u2 : V4.cell? ⟨b1, 2, none⟩ = some (.int .i64 (-1)) := HZ1.out.cell (i := 2) rfl
  have u3 : V4.cell? ⟨b1, 3, none⟩ = some (.string ⟨#[]⟩) := HZ1.out.cell (i := 3) rfl
  have u4 : V4.cell? ⟨b1, 4, none⟩ = some (.slice none 0 0) := HZ1.out.cell (i := 4) rfl
  have u5 : V4.cell? ⟨b1, 5, none⟩ = some (.slice (some ⟨B, 0, none⟩) 2 2) := HZ1.out.cell (i := 5) rfl
  have n0 : T ≠ V4.heap.size := Nat.ne_of_lt HZT.out.lt
  have n1 : b1 ≠ V4.heap.size := Nat.ne_of_lt HZ1.out.lt
  go_upto_region 5 with fail
  rw [HSV.out]
  rw [HE.out.2.2.2.2.2.1, HW4.out]
  clear t0 t1 t2 t3 t4 t5 u0 u1 u2 u3 u4 u5 n0 n1 HZ1 HZT HV4 HSV HW4
  have hE := HE.out
  have o3w : Own (W4.alloc (.cells #[.int .i64 0] 3)) b3 25 (cellsT (takeT R B b2).d) := HO3.out.keep (below_alloc _ _) HO3.out.lt
  have t0 : (W4.alloc (.cells #[.int .i64 0] 3)).cell? ⟨b3, 0, none⟩ = some (.int .i64 4) := o3w.cell (i := 0) rfl
  have t1 : (W4.alloc (.cells #[.int .i64 0] 3)).cell? ⟨b3, 1, none⟩ = some (.int .i64 1) := o3w.cell (i := 1) rfl
  have t2 : (W4.alloc (.cells #[.int .i64 0] 3)).cell? ⟨b3, 2, none⟩ = some (.int .i64 (-1)) := o3w.cell (i := 2) rfl
  have t3 : (W4.alloc (.cells #[.int .i64 0] 3)).cell? ⟨b3, 3, none⟩ = some (.string ⟨#[]⟩) := o3w.cell (i := 3) rfl
  have t4 : (W4.alloc (.cells #[.int .i64 0] 3)).cell? ⟨b3, 4, none⟩ = some (.slice none 0 0) := o3w.cell (i := 4) rfl
  have t5 : (W4.alloc (.cells #[.int .i64 0] 3)).cell? ⟨b3, 5, none⟩ = some (.slice (some ⟨b2, 0, none⟩) 2 2) := o3w.cell (i := 5) rfl
  clear o3w
  have n0 : b3 ≠ W4.heap.size := Nat.ne_of_lt HO3.out.lt
  obtain ⟨b6, hb6⟩ : ∃ b6, W4.heap.size = b6 := ⟨_, rfl⟩
  obtain ⟨W5, hW5⟩ : ∃ W5, W4.alloc (.cells #[.int .i64 0] 3) = W5 := ⟨_, rfl⟩
  obtain ⟨b7, hb7⟩ : ∃ b7, W5.heap.size = b7 := ⟨_, rfl⟩
  have o6 : Own W5 b6 3 [.int .i64 0] := by rw [← hW5]; exact Own.made _ _ [_] _ hb6.symm
  have hb5 : Below W4.heap.size W4 W5 := by rw [← hW5]; exact below_alloc _ _
  have hs5 : b7 = b6 + 1 := by rw [← hb7, ← hW5, ← hb6]; simp
  have HB6 := Lib.hid hb6
  have HW5 := Lib.hid hW5
  have HB7 := Lib.hid hb7
  have HO6 := Lib.hid o6
  have HB5 := Lib.hid hb5
  have HS5 : Hid (b7 = b6 + 1 ∧ W4.heap.size = b6) := ⟨hs5, hb6⟩
  clear hE hb6 hW5 hb7 o6 hb5 hs5
  go_wp2_with fail
  rw [HW5.out, HB6.out]
  clear HW5 HB6 t0 t1 t2 t3 t4 t5 n0
  refine (Steps_any (takeT R B b2).d W5).mono ?_
  rintro e6 w6 ⟨rfl, rfl⟩
  rw [HB7.out]
  obtain ⟨W6, hW6⟩ : ∃ W6, W5.alloc (.cells #[.int .i64 (takeT R B b2).d.kind, .int .i64 (takeT R B b2).d.fn, .int .i64 (takeT R B b2).d.axis, .string (takeT R B b2).d.name, .slice (takeT R B b2).d.np (takeT R B b2).d.nums.length (takeT R B b2).d.nc, .slice (takeT R B b2).d.kp (takeT R B b2).d.n (takeT R B b2).d.kc] 25) = W6 := ⟨_, rfl⟩
  rw [hW6]
  have o7 : Own W6 b7 25 [.int .i64 (takeT R B b2).d.kind, .int .i64 (takeT R B b2).d.fn, .int .i64 (takeT R B b2).d.axis, .string (takeT R B b2).d.name, .slice (takeT R B b2).d.np (takeT R B b2).d.nums.length (takeT R B b2).d.nc, .slice (takeT R B b2).d.kp (takeT R B b2).d.n (takeT R B b2).d.kc] := by rw [← hW6]; exact Own.made _ _ [.int .i64 (takeT R B b2).d.kind, .int .i64 (takeT R B b2).d.fn, .int .i64 (takeT R B b2).d.axis, .string (takeT R B b2).d.name, .slice (takeT R B b2).d.np (takeT R B b2).d.nums.length (takeT R B b2).d.nc, .slice (takeT R B b2).d.kp (takeT R B b2).d.n (takeT R B b2).d.kc] _ HB7.out.symm
  have hb6 : Below W5.heap.size W5 W6 := by rw [← hW6]; exact below_alloc _ _
  have hs6 : W6.heap.size = b7 + 1 := by rw [← hW6, ← HB7.out]; simp
  have o6 := HO6.out.keep hb6 HO6.out.lt
  have HO6 := Lib.hid o6
  have HO7 := Lib.hid o7
  have HB6 := Lib.hid (HB5.out.trans (hb6.mono HB5.out.size))
  have HS6 := Lib.hid hs6
  have HT4 := Lib.hid HAT.out.take.tree
  clear hW6 o7 hb6 hs6 o6
  go_wp2_with fail
  refine wpIn_wide.1 (wpIn_range_steps (n := 4) W4 (takeT R B b2) HT4.out HB6.out b7 HO7.out rfl rfl
    (fun pre V => Below W4.heap.size W4 V ∧ Own V b6 3 [.int .i64 (pre.length : Int)] ∧ W6.heap.size ≤ V.heap.size) (fun _ _ _ => False) ?hI (fun _ _ _ _ _ h _ _ => h) ⟨HB6.out, HO6.out, Nat.le_refl _⟩
    (fun x a' V => ∃ Bk, W6.heap.size ≤ Bk ∧ Own V Bk 25 [.int .i64 x.d.kind, .int .i64 x.d.fn, .int .i64 x.d.axis, .string x.d.name, .slice x.d.np x.d.nums.length x.d.nc, .slice x.d.kp x.d.n x.d.kc] ∧ a' = { tmps := #[.pointer (some ⟨w.heap.size, 0, none⟩), .pointer (some ⟨T, 0, none⟩), .pointer (some ⟨b1, 0, none⟩), .pointer (some ⟨b3, 0, none⟩), .pointer (some ⟨b5, 0, none⟩), .pointer (some ⟨b6, 0, none⟩), .func (.func 35) #[] #[.pointer (some ⟨b7, 0, none⟩)], .pointer (some ⟨Bk, 0, none⟩), undef, .slice (some ⟨R, 0, none⟩) 1 1, .agg #[.int .i64 1, .int .i64 0, .int .i64 (-1), .string ⟨#[]⟩, .slice (some ⟨R, 0, none⟩) 1 1, .slice none 0 0], .agg #[.int .i64 2, .int .i64 0, .int .i64 (-1), .string ⟨#[120]⟩, .slice none 0 0, .slice none 0 0], .agg #[.int .i64 2, .int .i64 0, .int .i64 (-1), .string ⟨#[121]⟩, .slice none 0 0, .slice none 0 0], .slice (some ⟨B, 0, none⟩) 2 2, .agg #[.int .i64 4, .int .i64 6, .int .i64 (-1), .string ⟨#[]⟩, .slice none 0 0, .slice (some ⟨B, 0, none⟩) 2 2], .agg #[.int .i64 1, .int .i64 0, .int .i64 (-1), .string ⟨#[]⟩, .slice (some ⟨R, 0, none⟩) 1 1, .slice none 0 0], .agg #[.int .i64 4, .int .i64 6, .int .i64 (-1), .string ⟨#[]⟩, .slice none 0 0, .slice (some ⟨B, 0, none⟩) 2 2], .slice (some ⟨b2, 0, none⟩) 2 2, .agg #[.int .i64 4, .int .i64 1, .int .i64 (-1), .string ⟨#[]⟩, .slice none 0 0, .slice (some ⟨b2, 0, none⟩) 2 2], .agg #[.int .i64 4, .int .i64 6, .int .i64 (-1), .string ⟨#[]⟩, .slice none 0 0, .slice (some ⟨B, 0, none⟩) 2 2], .agg #[.int .i64 1, .int .i64 0, .int .i64 (-1), .string ⟨#[]⟩, .slice (some ⟨R, 0, none⟩) 1 1, .slice none 0 0], .slice (some ⟨b4, 0, none⟩) 2 2, .agg #[.int .i64 4, .int .i64 1, .int .i64 (-1), .string ⟨#[]⟩, .slice none 0 0, .slice (some ⟨b4, 0, none⟩) 2 2], .agg #[.int .i64 4, .int .i64 1, .int .i64 (-1), .string ⟨#[]⟩, .slice none 0 0, .slice (some ⟨b2, 0, none⟩) 2 2], .func (.func 35) #[] #[.pointer (some ⟨b7, 0, none⟩)], .func (.func 35) #[] #[.pointer (some ⟨b7, 0, none⟩)], .bool false, .func (.func 35) #[] #[.pointer (some ⟨b7, 0, none⟩)], .agg #[.int .i64 x.d.kind, .int .i64 x.d.fn, .int .i64 x.d.axis, .string x.d.name, .slice x.d.np x.d.nums.length x.d.nc, .slice x.d.kp x.d.n x.d.kc], undef, undef, undef, undef, undef, undef, undef, undef, undef, undef, undef, undef, undef, undef, undef, undef, undef, undef, undef, undef, undef, undef, undef, undef, undef, undef, undef, undef, undef, undef, undef, undef, undef, undef, undef, undef, undef, undef, undef, undef, undef, undef, undef, undef, undef, undef, undef, undef, undef, undef, undef, undef, undef, undef, undef, undef, undef, undef, undef, undef, undef, undef, undef, undef, undef, undef, undef, undef, undef, undef, undef, undef, undef, undef, undef, undef, undef, undef, undef, undef, undef, undef, undef], defers := [] }) ?ax ?assign ?body ?done ?stop)
  case hI =>
    rintro s X Y row ⟨h1, h2, h3⟩ hg hr
    have hs5 := HS5.out
    have hs6 := HS6.out
    exact ⟨h1.grown hg h1.size (fun k e => by have := (hr k e).1; omega), h2.grown hg fun e => by have := (hr _ e.symm).1; omega, Nat.le_trans h3 hg.size⟩
  case ax =>
    rintro x a' V o o' ⟨Bk, hBk, ho, e⟩ hl hc
    refine ⟨Bk, hBk, ho.grown (grownBy_putObj' _ _ _) fun e => ?_, e⟩
    cases e
    obtain ⟨r, h'⟩ := ho
    rw [h'] at hl
    cases hl
    cases hc
  case assign =>
    intro l' pre x V K hI hK
    have HK := Lib.hid hK
    have HI := Lib.hid hI
    clear hK hI
    gi_wp2
    have hI := HI.out
    have hs5 := HS5.out
    have hs6 := HS6.out
    exact HK.out _ _ (KpS.of (below_alloc _ _) hI.1.size) ⟨hI.1.trans ((below_alloc V _).mono hI.1.size), hI.2.1.keep (below_alloc _ _) hI.2.1.lt, by have := hI.2.2; simp; omega⟩ ⟨V.heap.size, hI.2.2, Own.made V _ [.int .i64 x.d.kind, .int .i64 x.d.fn, .int .i64 x.d.axis, .string x.d.name, .slice x.d.np x.d.nums.length x.d.nc, .slice x.d.kp x.d.n x.d.kc] _ rfl, rfl⟩
  case body =>
    rintro l' pre x a' V rfl ⟨r, hr⟩ ⟨h1, h2, h3⟩ ⟨Bk, hBk, hoK, rfl⟩ hmap
    rw [takeT_steps] at hmap
    have hx5 := HS5.out
    have hx6 := HS6.out
    have hne : b6 ≠ Bk := by omega
    have fin : ∀ u : Value, u = .int .i64 ((pre ++ [x]).length : Int) → KpS W4.heap.size (fun k => W6.heap.size ≤ k) V (V.setCell ⟨b6, 0, none⟩ u) ∧ Below W4.heap.size W4 (V.setCell ⟨b6, 0, none⟩ u) ∧ Own (V.setCell ⟨b6, 0, none⟩ u) b6 3 [.int .i64 ((pre ++ [x]).length : Int)] ∧ W6.heap.size ≤ (V.setCell ⟨b6, 0, none⟩ u).heap.size := by
      rintro u rfl
      have hg := grownBy_setCell' V b6 (.int .i64 ((pre ++ [x]).length : Int))
      exact ⟨KpS.grown hg h1.size fun r e => by cases e; exact ⟨by omega, fun h => by omega⟩, h1.grown hg h1.size fun r e => by cases e; omega, h2.set (i := 0) (by simp) _, Nat.le_trans h3 hg.size⟩
    have FIN := Lib.hid fin
    clear fin hr h1 h3 hBk hx5 hx6
    rcases five_rounds hmap with ⟨hl, rfl⟩ | ⟨hl, rfl⟩ | ⟨hl, rfl⟩ | ⟨hl, rfl⟩ | ⟨hl, rfl⟩
    · have hn : Own V b6 3 [.int .i64 0] := by have := h2; rw [hl] at this; exact this
      have cn := hn.cell (i := 0) rfl
      have fn := hn.frozen 0
      have ok2 := hoK.other (a := ⟨b6, 0, none⟩) hne (.int .i64 1)
      have q0 : (V.setCell ⟨b6, 0, none⟩ (.int .i64 1)).cell? ⟨Bk, 0, none⟩ = some (.int .i64 2) := ok2.cell (i := 0) rfl
      have q1 : (V.setCell ⟨b6, 0, none⟩ (.int .i64 1)).cell? ⟨Bk, 1, none⟩ = some (.int .i64 0) := ok2.cell (i := 1) rfl
      have q3 : (V.setCell ⟨b6, 0, none⟩ (.int .i64 1)).cell? ⟨Bk, 3, none⟩ = some (.string ⟨#[121]⟩) := ok2.cell (i := 3) rfl
      have HV := Lib.hid (FIN.out (.int .i64 1) (by rw [List.length_append, hl]; rfl))
      clear hn h2 hoK ok2 hl hmap FIN
      gi_wp2
      exact HV.out
    · have hn : Own V b6 3 [.int .i64 1] := by have := h2; rw [hl] at this; exact this
      have cn := hn.cell (i := 0) rfl
      have fn := hn.frozen 0
      have ok2 := hoK.other (a := ⟨b6, 0, none⟩) hne (.int .i64 2)
      have q0 : (V.setCell ⟨b6, 0, none⟩ (.int .i64 2)).cell? ⟨Bk, 0, none⟩ = some (.int .i64 2) := ok2.cell (i := 0) rfl
      have q1 : (V.setCell ⟨b6, 0, none⟩ (.int .i64 2)).cell? ⟨Bk, 1, none⟩ = some (.int .i64 0) := ok2.cell (i := 1) rfl
      have q3 : (V.setCell ⟨b6, 0, none⟩ (.int .i64 2)).cell? ⟨Bk, 3, none⟩ = some (.string ⟨#[120]⟩) := ok2.cell (i := 3) rfl
      have HV := Lib.hid (FIN.out (.int .i64 2) (by rw [List.length_append, hl]; rfl))
      clear hn h2 hoK ok2 hl hmap FIN
      gi_wp2
      exact HV.out
    · have hn : Own V b6 3 [.int .i64 2] := by have := h2; rw [hl] at this; exact this
      have cn := hn.cell (i := 0) rfl
      have fn := hn.frozen 0
      have ok2 := hoK.other (a := ⟨b6, 0, none⟩) hne (.int .i64 3)
      have q0 : (V.setCell ⟨b6, 0, none⟩ (.int .i64 3)).cell? ⟨Bk, 0, none⟩ = some (.int .i64 4) := ok2.cell (i := 0) rfl
      have q1 : (V.setCell ⟨b6, 0, none⟩ (.int .i64 3)).cell? ⟨Bk, 1, none⟩ = some (.int .i64 6) := ok2.cell (i := 1) rfl
      have q3 : (V.setCell ⟨b6, 0, none⟩ (.int .i64 3)).cell? ⟨Bk, 3, none⟩ = some (.string ⟨#[]⟩) := ok2.cell (i := 3) rfl
      have HV := Lib.hid (FIN.out (.int .i64 3) (by rw [List.length_append, hl]; rfl))
      clear hn h2 hoK ok2 hl hmap FIN
      gi_wp2
      exact HV.out
    · have hn : Own V b6 3 [.int .i64 3] := by have := h2; rw [hl] at this; exact this
      have cn := hn.cell (i := 0) rfl
      have fn := hn.frozen 0
      have ok2 := hoK.other (a := ⟨b6, 0, none⟩) hne (.int .i64 4)
      have q0 : (V.setCell ⟨b6, 0, none⟩ (.int .i64 4)).cell? ⟨Bk, 0, none⟩ = some (.int .i64 1) := ok2.cell (i := 0) rfl
      have q1 : (V.setCell ⟨b6, 0, none⟩ (.int .i64 4)).cell? ⟨Bk, 1, none⟩ = some (.int .i64 0) := ok2.cell (i := 1) rfl
      have q3 : (V.setCell ⟨b6, 0, none⟩ (.int .i64 4)).cell? ⟨Bk, 3, none⟩ = some (.string ⟨#[]⟩) := ok2.cell (i := 3) rfl
      have HV := Lib.hid (FIN.out (.int .i64 4) (by rw [List.length_append, hl]; rfl))
      clear hn h2 hoK ok2 hl hmap FIN
      gi_wp2
      exact HV.out
    · have hn : Own V b6 3 [.int .i64 4] := by have := h2; rw [hl] at this; exact this
      have cn := hn.cell (i := 0) rfl
      have fn := hn.frozen 0
      have ok2 := hoK.other (a := ⟨b6, 0, none⟩) hne (.int .i64 5)
      have q0 : (V.setCell ⟨b6, 0, none⟩ (.int .i64 5)).cell? ⟨Bk, 0, none⟩ = some (.int .i64 4) := ok2.cell (i := 0) rfl
      have q1 : (V.setCell ⟨b6, 0, none⟩ (.int .i64 5)).cell? ⟨Bk, 1, none⟩ = some (.int .i64 1) := ok2.cell (i := 1) rfl
      have q3 : (V.setCell ⟨b6, 0, none⟩ (.int .i64 5)).cell? ⟨Bk, 3, none⟩ = some (.string ⟨#[]⟩) := ok2.cell (i := 3) rfl
      have HV := Lib.hid (FIN.out (.int .i64 5) (by rw [List.length_append, hl]; rfl))
      clear hn h2 hoK ok2 hl hmap FIN
      gi_wp2
      exact HV.out
  case done =>
    rintro D V hD ⟨h1, h2, h3⟩ hK
    have hE := HE.out
    have hx5 := HS5.out
    have hx6 := HS6.out
    have hs1 := HS1.out
    have hzz := HB3.out.size
    have ow4 := HX.out.keep HB4.out HX.out.lt
    have owV := ow4.keep h1 ow4.lt
    have oV3 := HO3.out.keep h1 HO3.out.lt
    have t0 : V.cell? ⟨b3, 0, none⟩ = some (.int .i64 4) := oV3.cell (i := 0) rfl
    have t1 : V.cell? ⟨b3, 1, none⟩ = some (.int .i64 1) := oV3.cell (i := 1) rfl
    have t2 : V.cell? ⟨b3, 2, none⟩ = some (.int .i64 (-1)) := oV3.cell (i := 2) rfl
    have t3 : V.cell? ⟨b3, 3, none⟩ = some (.string ⟨#[]⟩) := oV3.cell (i := 3) rfl
    have t4 : V.cell? ⟨b3, 4, none⟩ = some (.slice none 0 0) := oV3.cell (i := 4) rfl
    have t5 : V.cell? ⟨b3, 5, none⟩ = some (.slice (some ⟨b2, 0, none⟩) 2 2) := oV3.cell (i := 5) rfl
    have HN := Lib.hid (aw_names R B b2 V (HT4.out.keep h1))
    have hlow := (HB3.out.trans (HB4.out.mono (by omega))).trans (h1.mono (by omega : w.heap.size ≤ W4.heap.size))
    have HV : Hid (∀ gN z, V.heap.size ≤ gN → Own z gN 9 [.string ⟨#[121]⟩, .string ⟨#[120]⟩] → Below V.heap.size V z → AwS w w.heap.size b6 D gN W4 z) := fun gN z hgN hO hb =>
      ⟨fun k hk1 hk2 => (hb.block k (by omega)).trans (h1.block k hk2), Nat.le_trans h1.size hb.size, h2.keep hb h2.lt, hO, (hb.block D (Array.getElem?_eq_some_iff.1 hK).1).trans hK, ⟨_, owV.keep hb owV.lt⟩, below_t hlow hb, ⟨Nat.le_refl _, by omega, by omega, by omega⟩⟩
    have HCAT : Hid (TreeS (fun k => w.heap.size < k) W4 (catT B)) := HAT.out.take.2.2.2 1 Nat.one_lt_two
    have H1X : Hid (w.heap.size < b1) := by simp only [Hid]; omega
    have H3X : Hid (w.heap.size < b3) := by simp only [Hid]; omega
    have H5X : Hid (w.heap.size < b5) := by simp only [Hid]; omega
    clear hE hx5 hx6 hs1 hzz ow4 owV oV3 hlow h1 h2 h3 hK hD
    go_wp2_with fail
    refine HN.out.mono ?_
    rintro e14 w14 ⟨gN, cN, rfl, hgN, hoN, hbN⟩
    have hS := HV.out gN w14 hgN hoN hbN
    have hKS : Keeps (AwS w w.heap.size b6 D gN W4) := AwS.keep
    clear t0 t1 t2 t3 t4 t5 hgN hoN hbN
    go_wp2_with fail
    refine wp_region_noPanic ?_
    refine wp_region_held_drew (S := (AwS w w.heap.size b6 D gN W4)) (by kernel_rfl) ?_ (fun hHeld => ?_)
    · (try dsimp only); first | exact hHeld.set _ | exact hKS _ _ (by first | exact hHeld | exact hS) (by first | assumption | (go_grown; done) | (refine from_drew ?_; go_grown; done))
    refine takeH 0 (some 58) (v := ?_) rfl rfl (by kernel_rfl) (by kernel_rfl) (by kernel_rfl) (by rfl) ?_ (by exact hHeld) ?_
    rotate_left
    · intro w hSw; (try dsimp only at hSw); have m5 := hSw.n.cell (i := 0) rfl; have v3 := hSw.own HO3.out H3X.out; have a0 := v3.cell (i := 0) rfl; have a1 := v3.cell (i := 1) rfl; have a2 := v3.cell (i := 2) rfl; have a3 := v3.cell (i := 3) rfl; have a4 := v3.cell (i := 4) rfl; have a5 := v3.cell (i := 5) rfl; have v5 := hSw.own HO5.out H5X.out; have d0 := v5.cell (i := 0) rfl; have d1 := v5.cell (i := 1) rfl; have d2 := v5.cell (i := 2) rfl; have d3 := v5.cell (i := 3) rfl; have d4 := v5.cell (i := 4) rfl; have d5 := v5.cell (i := 5) rfl; have v1 := hSw.own HO1.out H1X.out; have g0 := v1.cell (i := 0) rfl; have g1 := v1.cell (i := 1) rfl; have g2 := v1.cell (i := 2) rfl; have g3 := v1.cell (i := 3) rfl; have g4 := v1.cell (i := 4) rfl; have g5 := v1.cell (i := 5) rfl; have nm0 := hSw.names.cell (i := 0) rfl; clear v3 v5 v1; simp only [twoT, catT, takeT, badT, TV.d, List.length_nil] at a0 a1 a2 a3 a4 a5 d0 d1 d2 d3 d4 d5 g0 g1 g2 g3 g4 g5; go_simp; try (with_reducible rfl)
    try simp only [Act.put, List.setIfInBounds_toArray, List.set_cons_zero, List.set_cons_succ]
    refine takeH 1 (some 59) (v := ?_) rfl rfl (by kernel_rfl) (by kernel_rfl) (by kernel_rfl) (by rfl) ?_ (by exact hHeld) ?_
    rotate_left
    · intro w hSw; (try dsimp only at hSw); have m5 := hSw.n.cell (i := 0) rfl; have v3 := hSw.own HO3.out H3X.out; have a0 := v3.cell (i := 0) rfl; have a1 := v3.cell (i := 1) rfl; have a2 := v3.cell (i := 2) rfl; have a3 := v3.cell (i := 3) rfl; have a4 := v3.cell (i := 4) rfl; have a5 := v3.cell (i := 5) rfl; have v5 := hSw.own HO5.out H5X.out; have d0 := v5.cell (i := 0) rfl; have d1 := v5.cell (i := 1) rfl; have d2 := v5.cell (i := 2) rfl; have d3 := v5.cell (i := 3) rfl; have d4 := v5.cell (i := 4) rfl; have d5 := v5.cell (i := 5) rfl; have v1 := hSw.own HO1.out H1X.out; have g0 := v1.cell (i := 0) rfl; have g1 := v1.cell (i := 1) rfl; have g2 := v1.cell (i := 2) rfl; have g3 := v1.cell (i := 3) rfl; have g4 := v1.cell (i := 4) rfl; have g5 := v1.cell (i := 5) rfl; have nm0 := hSw.names.cell (i := 0) rfl; clear v3 v5 v1; simp only [twoT, catT, takeT, badT, TV.d, List.length_nil] at a0 a1 a2 a3 a4 a5 d0 d1 d2 d3 d4 d5 g0 g1 g2 g3 g4 g5; go_simp; try (with_reducible rfl)
    try simp only [Act.put, List.setIfInBounds_toArray, List.set_cons_zero, List.set_cons_succ]
    refine takeH 2 (some 60) (v := ?_) rfl rfl (by kernel_rfl) (by kernel_rfl) (by kernel_rfl) (by rfl) ?_ (by exact hHeld) ?_
    rotate_left
    · intro w hSw; (try dsimp only at hSw); have m5 := hSw.n.cell (i := 0) rfl; have v3 := hSw.own HO3.out H3X.out; have a0 := v3.cell (i := 0) rfl; have a1 := v3.cell (i := 1) rfl; have a2 := v3.cell (i := 2) rfl; have a3 := v3.cell (i := 3) rfl; have a4 := v3.cell (i := 4) rfl; have a5 := v3.cell (i := 5) rfl; have v5 := hSw.own HO5.out H5X.out; have d0 := v5.cell (i := 0) rfl; have d1 := v5.cell (i := 1) rfl; have d2 := v5.cell (i := 2) rfl; have d3 := v5.cell (i := 3) rfl; have d4 := v5.cell (i := 4) rfl; have d5 := v5.cell (i := 5) rfl; have v1 := hSw.own HO1.out H1X.out; have g0 := v1.cell (i := 0) rfl; have g1 := v1.cell (i := 1) rfl; have g2 := v1.cell (i := 2) rfl; have g3 := v1.cell (i := 3) rfl; have g4 := v1.cell (i := 4) rfl; have g5 := v1.cell (i := 5) rfl; have nm0 := hSw.names.cell (i := 0) rfl; clear v3 v5 v1; simp only [twoT, catT, takeT, badT, TV.d, List.length_nil] at a0 a1 a2 a3 a4 a5 d0 d1 d2 d3 d4 d5 g0 g1 g2 g3 g4 g5; go_simp; try (with_reducible rfl)
    try simp only [Act.put, List.setIfInBounds_toArray, List.set_cons_zero, List.set_cons_succ]
    refine takeH 3 (some 61) (v := ?_) rfl rfl (by kernel_rfl) (by kernel_rfl) (by kernel_rfl) (by rfl) ?_ (by exact hHeld) ?_
    rotate_left
    · intro w hSw; (try dsimp only at hSw); have m5 := hSw.n.cell (i := 0) rfl; have v3 := hSw.own HO3.out H3X.out; have a0 := v3.cell (i := 0) rfl; have a1 := v3.cell (i := 1) rfl; have a2 := v3.cell (i := 2) rfl; have a3 := v3.cell (i := 3) rfl; have a4 := v3.cell (i := 4) rfl; have a5 := v3.cell (i := 5) rfl; have v5 := hSw.own HO5.out H5X.out; have d0 := v5.cell (i := 0) rfl; have d1 := v5.cell (i := 1) rfl; have d2 := v5.cell (i := 2) rfl; have d3 := v5.cell (i := 3) rfl; have d4 := v5.cell (i := 4) rfl; have d5 := v5.cell (i := 5) rfl; have v1 := hSw.own HO1.out H1X.out; have g0 := v1.cell (i := 0) rfl; have g1 := v1.cell (i := 1) rfl; have g2 := v1.cell (i := 2) rfl; have g3 := v1.cell (i := 3) rfl; have g4 := v1.cell (i := 4) rfl; have g5 := v1.cell (i := 5) rfl; have nm0 := hSw.names.cell (i := 0) rfl; clear v3 v5 v1; simp only [twoT, catT, takeT, badT, TV.d, List.length_nil] at a0 a1 a2 a3 a4 a5 d0 d1 d2 d3 d4 d5 g0 g1 g2 g3 g4 g5; go_simp; try (with_reducible rfl)
    try simp only [Act.put, List.setIfInBounds_toArray, List.set_cons_zero, List.set_cons_succ]
    refine wpAnyH_ready (rs := [4]) (by kernel_rfl) (by simp) ?_
    refine stepH 4 rfl (by rfl) (fun K hK => ?_) ?_
    · go_simp
      ((with_reducible refine (aw_right R B b2 _ ?_).mono ?_); (exact hHeld.tree HAT.out.take); rintro e4 w4 ⟨rfl, hb4⟩)
      refine hK.out _ _ ?_ (fun hNew => ?_)
      · (try dsimp only); first | exact hHeld.set _ | exact hKS _ _ (by first | exact hHeld | exact hS) (by first | assumption | (go_grown; done) | (refine from_drew ?_; go_grown; done))
      clear hK K hHeld
      have hHeld := hNew
      clear hNew
      try dsimp only at hHeld
      try simp only [Act.put, List.setIfInBounds_toArray, List.set_cons_zero, List.set_cons_succ]
      refine takeH 5 (some 63) (v := ?_) rfl rfl (by kernel_rfl) (by kernel_rfl) (by kernel_rfl) (by rfl) ?_ (by exact hHeld) ?_
      rotate_left
      · intro w hSw; (try dsimp only at hSw); have m5 := hSw.n.cell (i := 0) rfl; have v3 := hSw.own HO3.out H3X.out; have a0 := v3.cell (i := 0) rfl; have a1 := v3.cell (i := 1) rfl; have a2 := v3.cell (i := 2) rfl; have a3 := v3.cell (i := 3) rfl; have a4 := v3.cell (i := 4) rfl; have a5 := v3.cell (i := 5) rfl; have v5 := hSw.own HO5.out H5X.out; have d0 := v5.cell (i := 0) rfl; have d1 := v5.cell (i := 1) rfl; have d2 := v5.cell (i := 2) rfl; have d3 := v5.cell (i := 3) rfl; have d4 := v5.cell (i := 4) rfl; have d5 := v5.cell (i := 5) rfl; have v1 := hSw.own HO1.out H1X.out; have g0 := v1.cell (i := 0) rfl; have g1 := v1.cell (i := 1) rfl; have g2 := v1.cell (i := 2) rfl; have g3 := v1.cell (i := 3) rfl; have g4 := v1.cell (i := 4) rfl; have g5 := v1.cell (i := 5) rfl; have nm0 := hSw.names.cell (i := 0) rfl; clear v3 v5 v1; simp only [twoT, catT, takeT, badT, TV.d, List.length_nil] at a0 a1 a2 a3 a4 a5 d0 d1 d2 d3 d4 d5 g0 g1 g2 g3 g4 g5; go_simp; try (with_reducible rfl)
      try simp only [Act.put, List.setIfInBounds_toArray, List.set_cons_zero, List.set_cons_succ]
      refine takeH 6 (some 64) (v := ?_) rfl rfl (by kernel_rfl) (by kernel_rfl) (by kernel_rfl) (by rfl) ?_ (by exact hHeld) ?_
      rotate_left
      · intro w hSw; (try dsimp only at hSw); have m5 := hSw.n.cell (i := 0) rfl; have v3 := hSw.own HO3.out H3X.out; have a0 := v3.cell (i := 0) rfl; have a1 := v3.cell (i := 1) rfl; have a2 := v3.cell (i := 2) rfl; have a3 := v3.cell (i := 3) rfl; have a4 := v3.cell (i := 4) rfl; have a5 := v3.cell (i := 5) rfl; have v5 := hSw.own HO5.out H5X.out; have d0 := v5.cell (i := 0) rfl; have d1 := v5.cell (i := 1) rfl; have d2 := v5.cell (i := 2) rfl; have d3 := v5.cell (i := 3) rfl; have d4 := v5.cell (i := 4) rfl; have d5 := v5.cell (i := 5) rfl; have v1 := hSw.own HO1.out H1X.out; have g0 := v1.cell (i := 0) rfl; have g1 := v1.cell (i := 1) rfl; have g2 := v1.cell (i := 2) rfl; have g3 := v1.cell (i := 3) rfl; have g4 := v1.cell (i := 4) rfl; have g5 := v1.cell (i := 5) rfl; have nm0 := hSw.names.cell (i := 0) rfl; clear v3 v5 v1; simp only [twoT, catT, takeT, badT, TV.d, List.length_nil] at a0 a1 a2 a3 a4 a5 d0 d1 d2 d3 d4 d5 g0 g1 g2 g3 g4 g5; go_simp; try (with_reducible rfl)
      try simp only [Act.put, List.setIfInBounds_toArray, List.set_cons_zero, List.set_cons_succ]
      refine takeH 7 (some 65) (v := ?_) rfl rfl (by kernel_rfl) (by kernel_rfl) (by kernel_rfl) (by rfl) ?_ (by exact hHeld) ?_
      rotate_left
      · intro w hSw; (try dsimp only at hSw); have m5 := hSw.n.cell (i := 0) rfl; have v3 := hSw.own HO3.out H3X.out; have a0 := v3.cell (i := 0) rfl; have a1 := v3.cell (i := 1) rfl; have a2 := v3.cell (i := 2) rfl; have a3 := v3.cell (i := 3) rfl; have a4 := v3.cell (i := 4) rfl; have a5 := v3.cell (i := 5) rfl; have v5 := hSw.own HO5.out H5X.out; have d0 := v5.cell (i := 0) rfl; have d1 := v5.cell (i := 1) rfl; have d2 := v5.cell (i := 2) rfl; have d3 := v5.cell (i := 3) rfl; have d4 := v5.cell (i := 4) rfl; have d5 := v5.cell (i := 5) rfl; have v1 := hSw.own HO1.out H1X.out; have g0 := v1.cell (i := 0) rfl; have g1 := v1.cell (i := 1) rfl; have g2 := v1.cell (i := 2) rfl; have g3 := v1.cell (i := 3) rfl; have g4 := v1.cell (i := 4) rfl; have g5 := v1.cell (i := 5) rfl; have nm0 := hSw.names.cell (i := 0) rfl; clear v3 v5 v1; simp only [twoT, catT, takeT, badT, TV.d, List.length_nil] at a0 a1 a2 a3 a4 a5 d0 d1 d2 d3 d4 d5 g0 g1 g2 g3 g4 g5; go_simp; try (with_reducible rfl)
      try simp only [Act.put, List.setIfInBounds_toArray, List.set_cons_zero, List.set_cons_succ]
      refine wpAnyH_ready (rs := [8]) (by kernel_rfl) (by simp) ?_
      refine stepH 8 rfl (by rfl) (fun K hK => ?_) ?_
      · go_simp
        ((with_reducible refine (aw_bad R B b4 _ ?_).mono ?_); (exact hHeld.tree HAT.out.bad); rintro e8 w8 ⟨rfl, hb8⟩)
        refine hK.out _ _ ?_ (fun hNew => ?_)
        · (try dsimp only); first | exact hHeld.set _ | exact hKS _ _ (by first | exact hHeld | exact hS) (by first | assumption | (go_grown; done) | (refine from_drew ?_; go_grown; done))
        clear hK K hHeld
        have hHeld := hNew
        clear hNew
        try dsimp only at hHeld
        try simp only [Act.put, List.setIfInBounds_toArray, List.set_cons_zero, List.set_cons_succ]
        refine takeH 9 (some 67) (v := ?_) rfl rfl (by kernel_rfl) (by kernel_rfl) (by kernel_rfl) (by rfl) ?_ (by exact hHeld) ?_
        rotate_left
        · intro w hSw; (try dsimp only at hSw); have m5 := hSw.n.cell (i := 0) rfl; have v3 := hSw.own HO3.out H3X.out; have a0 := v3.cell (i := 0) rfl; have a1 := v3.cell (i := 1) rfl; have a2 := v3.cell (i := 2) rfl; have a3 := v3.cell (i := 3) rfl; have a4 := v3.cell (i := 4) rfl; have a5 := v3.cell (i := 5) rfl; have v5 := hSw.own HO5.out H5X.out; have d0 := v5.cell (i := 0) rfl; have d1 := v5.cell (i := 1) rfl; have d2 := v5.cell (i := 2) rfl; have d3 := v5.cell (i := 3) rfl; have d4 := v5.cell (i := 4) rfl; have d5 := v5.cell (i := 5) rfl; have v1 := hSw.own HO1.out H1X.out; have g0 := v1.cell (i := 0) rfl; have g1 := v1.cell (i := 1) rfl; have g2 := v1.cell (i := 2) rfl; have g3 := v1.cell (i := 3) rfl; have g4 := v1.cell (i := 4) rfl; have g5 := v1.cell (i := 5) rfl; have nm0 := hSw.names.cell (i := 0) rfl; clear v3 v5 v1; simp only [twoT, catT, takeT, badT, TV.d, List.length_nil] at a0 a1 a2 a3 a4 a5 d0 d1 d2 d3 d4 d5 g0 g1 g2 g3 g4 g5; go_simp; try (with_reducible rfl)
        try simp only [Act.put, List.setIfInBounds_toArray, List.set_cons_zero, List.set_cons_succ]
        refine takeH 10 (some 68) (v := ?_) rfl rfl (by kernel_rfl) (by kernel_rfl) (by kernel_rfl) (by rfl) ?_ (by exact hHeld) ?_
        rotate_left
        · intro w hSw; (try dsimp only at hSw); have m5 := hSw.n.cell (i := 0) rfl; have v3 := hSw.own HO3.out H3X.out; have a0 := v3.cell (i := 0) rfl; have a1 := v3.cell (i := 1) rfl; have a2 := v3.cell (i := 2) rfl; have a3 := v3.cell (i := 3) rfl; have a4 := v3.cell (i := 4) rfl; have a5 := v3.cell (i := 5) rfl; have v5 := hSw.own HO5.out H5X.out; have d0 := v5.cell (i := 0) rfl; have d1 := v5.cell (i := 1) rfl; have d2 := v5.cell (i := 2) rfl; have d3 := v5.cell (i := 3) rfl; have d4 := v5.cell (i := 4) rfl; have d5 := v5.cell (i := 5) rfl; have v1 := hSw.own HO1.out H1X.out; have g0 := v1.cell (i := 0) rfl; have g1 := v1.cell (i := 1) rfl; have g2 := v1.cell (i := 2) rfl; have g3 := v1.cell (i := 3) rfl; have g4 := v1.cell (i := 4) rfl; have g5 := v1.cell (i := 5) rfl; have nm0 := hSw.names.cell (i := 0) rfl; clear v3 v5 v1; simp only [twoT, catT, takeT, badT, TV.d, List.length_nil] at a0 a1 a2 a3 a4 a5 d0 d1 d2 d3 d4 d5 g0 g1 g2 g3 g4 g5; go_simp; try (with_reducible rfl)
        try simp only [Act.put, List.setIfInBounds_toArray, List.set_cons_zero, List.set_cons_succ]
        refine takeH 11 (some 69) (v := ?_) rfl rfl (by kernel_rfl) (by kernel_rfl) (by kernel_rfl) (by rfl) ?_ (by exact hHeld) ?_
        rotate_left
        · intro w hSw; (try dsimp only at hSw); have m5 := hSw.n.cell (i := 0) rfl; have v3 := hSw.own HO3.out H3X.out; have a0 := v3.cell (i := 0) rfl; have a1 := v3.cell (i := 1) rfl; have a2 := v3.cell (i := 2) rfl; have a3 := v3.cell (i := 3) rfl; have a4 := v3.cell (i := 4) rfl; have a5 := v3.cell (i := 5) rfl; have v5 := hSw.own HO5.out H5X.out; have d0 := v5.cell (i := 0) rfl; have d1 := v5.cell (i := 1) rfl; have d2 := v5.cell (i := 2) rfl; have d3 := v5.cell (i := 3) rfl; have d4 := v5.cell (i := 4) rfl; have d5 := v5.cell (i := 5) rfl; have v1 := hSw.own HO1.out H1X.out; have g0 := v1.cell (i := 0) rfl; have g1 := v1.cell (i := 1) rfl; have g2 := v1.cell (i := 2) rfl; have g3 := v1.cell (i := 3) rfl; have g4 := v1.cell (i := 4) rfl; have g5 := v1.cell (i := 5) rfl; have nm0 := hSw.names.cell (i := 0) rfl; clear v3 v5 v1; simp only [twoT, catT, takeT, badT, TV.d, List.length_nil] at a0 a1 a2 a3 a4 a5 d0 d1 d2 d3 d4 d5 g0 g1 g2 g3 g4 g5; go_simp; try (with_reducible rfl)
        try simp only [Act.put, List.setIfInBounds_toArray, List.set_cons_zero, List.set_cons_succ]
        refine takeH 12 (some 70) (v := ?_) rfl rfl (by kernel_rfl) (by kernel_rfl) (by kernel_rfl) (by rfl) ?_ (by exact hHeld) ?_
        rotate_left
        · intro w hSw; (try dsimp only at hSw); have m5 := hSw.n.cell (i := 0) rfl; have v3 := hSw.own HO3.out H3X.out; have a0 := v3.cell (i := 0) rfl; have a1 := v3.cell (i := 1) rfl; have a2 := v3.cell (i := 2) rfl; have a3 := v3.cell (i := 3) rfl; have a4 := v3.cell (i := 4) rfl; have a5 := v3.cell (i := 5) rfl; have v5 := hSw.own HO5.out H5X.out; have d0 := v5.cell (i := 0) rfl; have d1 := v5.cell (i := 1) rfl; have d2 := v5.cell (i := 2) rfl; have d3 := v5.cell (i := 3) rfl; have d4 := v5.cell (i := 4) rfl; have d5 := v5.cell (i := 5) rfl; have v1 := hSw.own HO1.out H1X.out; have g0 := v1.cell (i := 0) rfl; have g1 := v1.cell (i := 1) rfl; have g2 := v1.cell (i := 2) rfl; have g3 := v1.cell (i := 3) rfl; have g4 := v1.cell (i := 4) rfl; have g5 := v1.cell (i := 5) rfl; have nm0 := hSw.names.cell (i := 0) rfl; clear v3 v5 v1; simp only [twoT, catT, takeT, badT, TV.d, List.length_nil] at a0 a1 a2 a3 a4 a5 d0 d1 d2 d3 d4 d5 g0 g1 g2 g3 g4 g5; go_simp; try (with_reducible rfl)
        try simp only [Act.put, List.setIfInBounds_toArray, List.set_cons_zero, List.set_cons_succ]
        refine wpAnyH_ready (rs := [13]) (by kernel_rfl) (by simp) ?_
        refine stepH 13 rfl (by rfl) (fun K hK => ?_) ?_
        · go_simp
          ((with_reducible refine (aw_zero _).mono ?_);  rintro e13 w13 ⟨rfl, hb13⟩)
          refine hK.out _ _ ?_ (fun hNew => ?_)
          · (try dsimp only); first | exact hHeld.set _ | exact hKS _ _ (by first | exact hHeld | exact hS) (by first | assumption | (go_grown; done) | (refine from_drew ?_; go_grown; done))
          clear hK K hHeld
          have hHeld := hNew
          clear hNew
          try dsimp only at hHeld
          try simp only [Act.put, List.setIfInBounds_toArray, List.set_cons_zero, List.set_cons_succ]
          refine takeH 14 (some 72) (v := ?_) rfl rfl (by kernel_rfl) (by kernel_rfl) (by kernel_rfl) (by rfl) ?_ (by exact hHeld) ?_
          rotate_left
          · intro w hSw; (try dsimp only at hSw); have m5 := hSw.n.cell (i := 0) rfl; have v3 := hSw.own HO3.out H3X.out; have a0 := v3.cell (i := 0) rfl; have a1 := v3.cell (i := 1) rfl; have a2 := v3.cell (i := 2) rfl; have a3 := v3.cell (i := 3) rfl; have a4 := v3.cell (i := 4) rfl; have a5 := v3.cell (i := 5) rfl; have v5 := hSw.own HO5.out H5X.out; have d0 := v5.cell (i := 0) rfl; have d1 := v5.cell (i := 1) rfl; have d2 := v5.cell (i := 2) rfl; have d3 := v5.cell (i := 3) rfl; have d4 := v5.cell (i := 4) rfl; have d5 := v5.cell (i := 5) rfl; have v1 := hSw.own HO1.out H1X.out; have g0 := v1.cell (i := 0) rfl; have g1 := v1.cell (i := 1) rfl; have g2 := v1.cell (i := 2) rfl; have g3 := v1.cell (i := 3) rfl; have g4 := v1.cell (i := 4) rfl; have g5 := v1.cell (i := 5) rfl; have nm0 := hSw.names.cell (i := 0) rfl; clear v3 v5 v1; simp only [twoT, catT, takeT, badT, TV.d, List.length_nil] at a0 a1 a2 a3 a4 a5 d0 d1 d2 d3 d4 d5 g0 g1 g2 g3 g4 g5; go_simp; try (with_reducible rfl)
          try simp only [Act.put, List.setIfInBounds_toArray, List.set_cons_zero, List.set_cons_succ]
          refine takeH 15 (some 73) (v := ?_) rfl rfl (by kernel_rfl) (by kernel_rfl) (by kernel_rfl) (by rfl) ?_ (by exact hHeld) ?_
          rotate_left
          · intro w hSw; (try dsimp only at hSw); have m5 := hSw.n.cell (i := 0) rfl; have v3 := hSw.own HO3.out H3X.out; have a0 := v3.cell (i := 0) rfl; have a1 := v3.cell (i := 1) rfl; have a2 := v3.cell (i := 2) rfl; have a3 := v3.cell (i := 3) rfl; have a4 := v3.cell (i := 4) rfl; have a5 := v3.cell (i := 5) rfl; have v5 := hSw.own HO5.out H5X.out; have d0 := v5.cell (i := 0) rfl; have d1 := v5.cell (i := 1) rfl; have d2 := v5.cell (i := 2) rfl; have d3 := v5.cell (i := 3) rfl; have d4 := v5.cell (i := 4) rfl; have d5 := v5.cell (i := 5) rfl; have v1 := hSw.own HO1.out H1X.out; have g0 := v1.cell (i := 0) rfl; have g1 := v1.cell (i := 1) rfl; have g2 := v1.cell (i := 2) rfl; have g3 := v1.cell (i := 3) rfl; have g4 := v1.cell (i := 4) rfl; have g5 := v1.cell (i := 5) rfl; have nm0 := hSw.names.cell (i := 0) rfl; clear v3 v5 v1; simp only [twoT, catT, takeT, badT, TV.d, List.length_nil] at a0 a1 a2 a3 a4 a5 d0 d1 d2 d3 d4 d5 g0 g1 g2 g3 g4 g5; go_simp; try (with_reducible rfl)
          try simp only [Act.put, List.setIfInBounds_toArray, List.set_cons_zero, List.set_cons_succ]
          refine takeH 16 (some 74) (v := ?_) rfl rfl (by kernel_rfl) (by kernel_rfl) (by kernel_rfl) (by rfl) ?_ (by exact hHeld) ?_
          rotate_left
          · intro w hSw; (try dsimp only at hSw); have m5 := hSw.n.cell (i := 0) rfl; have v3 := hSw.own HO3.out H3X.out; have a0 := v3.cell (i := 0) rfl; have a1 := v3.cell (i := 1) rfl; have a2 := v3.cell (i := 2) rfl; have a3 := v3.cell (i := 3) rfl; have a4 := v3.cell (i := 4) rfl; have a5 := v3.cell (i := 5) rfl; have v5 := hSw.own HO5.out H5X.out; have d0 := v5.cell (i := 0) rfl; have d1 := v5.cell (i := 1) rfl; have d2 := v5.cell (i := 2) rfl; have d3 := v5.cell (i := 3) rfl; have d4 := v5.cell (i := 4) rfl; have d5 := v5.cell (i := 5) rfl; have v1 := hSw.own HO1.out H1X.out; have g0 := v1.cell (i := 0) rfl; have g1 := v1.cell (i := 1) rfl; have g2 := v1.cell (i := 2) rfl; have g3 := v1.cell (i := 3) rfl; have g4 := v1.cell (i := 4) rfl; have g5 := v1.cell (i := 5) rfl; have nm0 := hSw.names.cell (i := 0) rfl; clear v3 v5 v1; simp only [twoT, catT, takeT, badT, TV.d, List.length_nil] at a0 a1 a2 a3 a4 a5 d0 d1 d2 d3 d4 d5 g0 g1 g2 g3 g4 g5; go_simp; try (with_reducible rfl)
          try simp only [Act.put, List.setIfInBounds_toArray, List.set_cons_zero, List.set_cons_succ]
          refine takeH 17 (some 75) (v := ?_) rfl rfl (by kernel_rfl) (by kernel_rfl) (by kernel_rfl) (by rfl) ?_ (by exact hHeld) ?_
          rotate_left
          · intro w hSw; (try dsimp only at hSw); have m5 := hSw.n.cell (i := 0) rfl; have v3 := hSw.own HO3.out H3X.out; have a0 := v3.cell (i := 0) rfl; have a1 := v3.cell (i := 1) rfl; have a2 := v3.cell (i := 2) rfl; have a3 := v3.cell (i := 3) rfl; have a4 := v3.cell (i := 4) rfl; have a5 := v3.cell (i := 5) rfl; have v5 := hSw.own HO5.out H5X.out; have d0 := v5.cell (i := 0) rfl; have d1 := v5.cell (i := 1) rfl; have d2 := v5.cell (i := 2) rfl; have d3 := v5.cell (i := 3) rfl; have d4 := v5.cell (i := 4) rfl; have d5 := v5.cell (i := 5) rfl; have v1 := hSw.own HO1.out H1X.out; have g0 := v1.cell (i := 0) rfl; have g1 := v1.cell (i := 1) rfl; have g2 := v1.cell (i := 2) rfl; have g3 := v1.cell (i := 3) rfl; have g4 := v1.cell (i := 4) rfl; have g5 := v1.cell (i := 5) rfl; have nm0 := hSw.names.cell (i := 0) rfl; clear v3 v5 v1; simp only [twoT, catT, takeT, badT, TV.d, List.length_nil] at a0 a1 a2 a3 a4 a5 d0 d1 d2 d3 d4 d5 g0 g1 g2 g3 g4 g5; go_simp; try (with_reducible rfl)
          try simp only [Act.put, List.setIfInBounds_toArray, List.set_cons_zero, List.set_cons_succ]
          refine wpAnyH_ready (rs := [18]) (by kernel_rfl) (by simp) ?_
          refine stepH 18 rfl (by rfl) (fun K hK => ?_) ?_
          · go_simp
            ((with_reducible refine (aw_size R B b2 _ ?_).mono ?_); (exact hHeld.tree HAT.out.take); rintro e18 w18 ⟨rfl, hb18⟩)
            refine hK.out _ _ ?_ (fun hNew => ?_)
            · (try dsimp only); first | exact hHeld.set _ | exact hKS _ _ (by first | exact hHeld | exact hS) (by first | assumption | (go_grown; done) | (refine from_drew ?_; go_grown; done))
            clear hK K hHeld
            have hHeld := hNew
            clear hNew
            try dsimp only at hHeld
            try simp only [Act.put, List.setIfInBounds_toArray, List.set_cons_zero, List.set_cons_succ]
            refine takeH 19 (some 77) (v := ?_) rfl rfl (by kernel_rfl) (by kernel_rfl) (by kernel_rfl) (by rfl) ?_ (by exact hHeld) ?_
            rotate_left
            · intro w hSw; (try dsimp only at hSw); have m5 := hSw.n.cell (i := 0) rfl; have v3 := hSw.own HO3.out H3X.out; have a0 := v3.cell (i := 0) rfl; have a1 := v3.cell (i := 1) rfl; have a2 := v3.cell (i := 2) rfl; have a3 := v3.cell (i := 3) rfl; have a4 := v3.cell (i := 4) rfl; have a5 := v3.cell (i := 5) rfl; have v5 := hSw.own HO5.out H5X.out; have d0 := v5.cell (i := 0) rfl; have d1 := v5.cell (i := 1) rfl; have d2 := v5.cell (i := 2) rfl; have d3 := v5.cell (i := 3) rfl; have d4 := v5.cell (i := 4) rfl; have d5 := v5.cell (i := 5) rfl; have v1 := hSw.own HO1.out H1X.out; have g0 := v1.cell (i := 0) rfl; have g1 := v1.cell (i := 1) rfl; have g2 := v1.cell (i := 2) rfl; have g3 := v1.cell (i := 3) rfl; have g4 := v1.cell (i := 4) rfl; have g5 := v1.cell (i := 5) rfl; have nm0 := hSw.names.cell (i := 0) rfl; clear v3 v5 v1; simp only [twoT, catT, takeT, badT, TV.d, List.length_nil] at a0 a1 a2 a3 a4 a5 d0 d1 d2 d3 d4 d5 g0 g1 g2 g3 g4 g5; go_simp; try (with_reducible rfl)
            try simp only [Act.put, List.setIfInBounds_toArray, List.set_cons_zero, List.set_cons_succ]
            refine takeH 20 (some 78) (v := ?_) rfl rfl (by kernel_rfl) (by kernel_rfl) (by kernel_rfl) (by rfl) ?_ (by exact hHeld) ?_
            rotate_left
            · intro w hSw; (try dsimp only at hSw); have m5 := hSw.n.cell (i := 0) rfl; have v3 := hSw.own HO3.out H3X.out; have a0 := v3.cell (i := 0) rfl; have a1 := v3.cell (i := 1) rfl; have a2 := v3.cell (i := 2) rfl; have a3 := v3.cell (i := 3) rfl; have a4 := v3.cell (i := 4) rfl; have a5 := v3.cell (i := 5) rfl; have v5 := hSw.own HO5.out H5X.out; have d0 := v5.cell (i := 0) rfl; have d1 := v5.cell (i := 1) rfl; have d2 := v5.cell (i := 2) rfl; have d3 := v5.cell (i := 3) rfl; have d4 := v5.cell (i := 4) rfl; have d5 := v5.cell (i := 5) rfl; have v1 := hSw.own HO1.out H1X.out; have g0 := v1.cell (i := 0) rfl; have g1 := v1.cell (i := 1) rfl; have g2 := v1.cell (i := 2) rfl; have g3 := v1.cell (i := 3) rfl; have g4 := v1.cell (i := 4) rfl; have g5 := v1.cell (i := 5) rfl; have nm0 := hSw.names.cell (i := 0) rfl; clear v3 v5 v1; simp only [twoT, catT, takeT, badT, TV.d, List.length_nil] at a0 a1 a2 a3 a4 a5 d0 d1 d2 d3 d4 d5 g0 g1 g2 g3 g4 g5; go_simp; try (with_reducible rfl)
            try simp only [Act.put, List.setIfInBounds_toArray, List.set_cons_zero, List.set_cons_succ]
            refine takeH 21 (some 79) (v := ?_) rfl rfl (by kernel_rfl) (by kernel_rfl) (by kernel_rfl) (by rfl) ?_ (by exact hHeld) ?_
            rotate_left
            · intro w hSw; (try dsimp only at hSw); have m5 := hSw.n.cell (i := 0) rfl; have v3 := hSw.own HO3.out H3X.out; have a0 := v3.cell (i := 0) rfl; have a1 := v3.cell (i := 1) rfl; have a2 := v3.cell (i := 2) rfl; have a3 := v3.cell (i := 3) rfl; have a4 := v3.cell (i := 4) rfl; have a5 := v3.cell (i := 5) rfl; have v5 := hSw.own HO5.out H5X.out; have d0 := v5.cell (i := 0) rfl; have d1 := v5.cell (i := 1) rfl; have d2 := v5.cell (i := 2) rfl; have d3 := v5.cell (i := 3) rfl; have d4 := v5.cell (i := 4) rfl; have d5 := v5.cell (i := 5) rfl; have v1 := hSw.own HO1.out H1X.out; have g0 := v1.cell (i := 0) rfl; have g1 := v1.cell (i := 1) rfl; have g2 := v1.cell (i := 2) rfl; have g3 := v1.cell (i := 3) rfl; have g4 := v1.cell (i := 4) rfl; have g5 := v1.cell (i := 5) rfl; have nm0 := hSw.names.cell (i := 0) rfl; clear v3 v5 v1; simp only [twoT, catT, takeT, badT, TV.d, List.length_nil] at a0 a1 a2 a3 a4 a5 d0 d1 d2 d3 d4 d5 g0 g1 g2 g3 g4 g5; go_simp; try (with_reducible rfl)
            try simp only [Act.put, List.setIfInBounds_toArray, List.set_cons_zero, List.set_cons_succ]
            refine takeH 22 (some 80) (v := ?_) rfl rfl (by kernel_rfl) (by kernel_rfl) (by kernel_rfl) (by rfl) ?_ (by exact hHeld) ?_
            rotate_left
            · intro w hSw; (try dsimp only at hSw); have m5 := hSw.n.cell (i := 0) rfl; have v3 := hSw.own HO3.out H3X.out; have a0 := v3.cell (i := 0) rfl; have a1 := v3.cell (i := 1) rfl; have a2 := v3.cell (i := 2) rfl; have a3 := v3.cell (i := 3) rfl; have a4 := v3.cell (i := 4) rfl; have a5 := v3.cell (i := 5) rfl; have v5 := hSw.own HO5.out H5X.out; have d0 := v5.cell (i := 0) rfl; have d1 := v5.cell (i := 1) rfl; have d2 := v5.cell (i := 2) rfl; have d3 := v5.cell (i := 3) rfl; have d4 := v5.cell (i := 4) rfl; have d5 := v5.cell (i := 5) rfl; have v1 := hSw.own HO1.out H1X.out; have g0 := v1.cell (i := 0) rfl; have g1 := v1.cell (i := 1) rfl; have g2 := v1.cell (i := 2) rfl; have g3 := v1.cell (i := 3) rfl; have g4 := v1.cell (i := 4) rfl; have g5 := v1.cell (i := 5) rfl; have nm0 := hSw.names.cell (i := 0) rfl; clear v3 v5 v1; simp only [twoT, catT, takeT, badT, TV.d, List.length_nil] at a0 a1 a2 a3 a4 a5 d0 d1 d2 d3 d4 d5 g0 g1 g2 g3 g4 g5; go_simp; try (with_reducible rfl)
            try simp only [Act.put, List.setIfInBounds_toArray, List.set_cons_zero, List.set_cons_succ]
            refine wpAnyH_ready (rs := [23]) (by kernel_rfl) (by simp) ?_
            refine stepH 23 rfl (by rfl) (fun K hK => ?_) ?_
            · go_simp
              ((with_reducible refine (aw_depth R B b2 _ ?_).mono ?_); (exact hHeld.tree HAT.out.take); rintro e23 w23 ⟨rfl, hb23⟩)
              refine hK.out _ _ ?_ (fun hNew => ?_)
              · (try dsimp only); first | exact hHeld.set _ | exact hKS _ _ (by first | exact hHeld | exact hS) (by first | assumption | (go_grown; done) | (refine from_drew ?_; go_grown; done))
              clear hK K hHeld
              have hHeld := hNew
              clear hNew
              try dsimp only at hHeld
              try simp only [Act.put, List.setIfInBounds_toArray, List.set_cons_zero, List.set_cons_succ]
              refine takeH 24 (some 82) (v := ?_) rfl rfl (by kernel_rfl) (by kernel_rfl) (by kernel_rfl) (by rfl) ?_ (by exact hHeld) ?_
              rotate_left
              · intro w hSw; (try dsimp only at hSw); have m5 := hSw.n.cell (i := 0) rfl; have v3 := hSw.own HO3.out H3X.out; have a0 := v3.cell (i := 0) rfl; have a1 := v3.cell (i := 1) rfl; have a2 := v3.cell (i := 2) rfl; have a3 := v3.cell (i := 3) rfl; have a4 := v3.cell (i := 4) rfl; have a5 := v3.cell (i := 5) rfl; have v5 := hSw.own HO5.out H5X.out; have d0 := v5.cell (i := 0) rfl; have d1 := v5.cell (i := 1) rfl; have d2 := v5.cell (i := 2) rfl; have d3 := v5.cell (i := 3) rfl; have d4 := v5.cell (i := 4) rfl; have d5 := v5.cell (i := 5) rfl; have v1 := hSw.own HO1.out H1X.out; have g0 := v1.cell (i := 0) rfl; have g1 := v1.cell (i := 1) rfl; have g2 := v1.cell (i := 2) rfl; have g3 := v1.cell (i := 3) rfl; have g4 := v1.cell (i := 4) rfl; have g5 := v1.cell (i := 5) rfl; have nm0 := hSw.names.cell (i := 0) rfl; clear v3 v5 v1; simp only [twoT, catT, takeT, badT, TV.d, List.length_nil] at a0 a1 a2 a3 a4 a5 d0 d1 d2 d3 d4 d5 g0 g1 g2 g3 g4 g5; go_simp; try (with_reducible rfl)
              try simp only [Act.put, List.setIfInBounds_toArray, List.set_cons_zero, List.set_cons_succ]
              refine takeH 25 (some 83) (v := ?_) rfl rfl (by kernel_rfl) (by kernel_rfl) (by kernel_rfl) (by rfl) ?_ (by exact hHeld) ?_
              rotate_left
              · intro w hSw; (try dsimp only at hSw); have m5 := hSw.n.cell (i := 0) rfl; have v3 := hSw.own HO3.out H3X.out; have a0 := v3.cell (i := 0) rfl; have a1 := v3.cell (i := 1) rfl; have a2 := v3.cell (i := 2) rfl; have a3 := v3.cell (i := 3) rfl; have a4 := v3.cell (i := 4) rfl; have a5 := v3.cell (i := 5) rfl; have v5 := hSw.own HO5.out H5X.out; have d0 := v5.cell (i := 0) rfl; have d1 := v5.cell (i := 1) rfl; have d2 := v5.cell (i := 2) rfl; have d3 := v5.cell (i := 3) rfl; have d4 := v5.cell (i := 4) rfl; have d5 := v5.cell (i := 5) rfl; have v1 := hSw.own HO1.out H1X.out; have g0 := v1.cell (i := 0) rfl; have g1 := v1.cell (i := 1) rfl; have g2 := v1.cell (i := 2) rfl; have g3 := v1.cell (i := 3) rfl; have g4 := v1.cell (i := 4) rfl; have g5 := v1.cell (i := 5) rfl; have nm0 := hSw.names.cell (i := 0) rfl; clear v3 v5 v1; simp only [twoT, catT, takeT, badT, TV.d, List.length_nil] at a0 a1 a2 a3 a4 a5 d0 d1 d2 d3 d4 d5 g0 g1 g2 g3 g4 g5; go_simp; try (with_reducible rfl)
              try simp only [Act.put, List.setIfInBounds_toArray, List.set_cons_zero, List.set_cons_succ]
              refine takeH 26 (some 84) (v := ?_) rfl rfl (by kernel_rfl) (by kernel_rfl) (by kernel_rfl) (by rfl) ?_ (by exact hHeld) ?_
              rotate_left
              · intro w hSw; (try dsimp only at hSw); have m5 := hSw.n.cell (i := 0) rfl; have v3 := hSw.own HO3.out H3X.out; have a0 := v3.cell (i := 0) rfl; have a1 := v3.cell (i := 1) rfl; have a2 := v3.cell (i := 2) rfl; have a3 := v3.cell (i := 3) rfl; have a4 := v3.cell (i := 4) rfl; have a5 := v3.cell (i := 5) rfl; have v5 := hSw.own HO5.out H5X.out; have d0 := v5.cell (i := 0) rfl; have d1 := v5.cell (i := 1) rfl; have d2 := v5.cell (i := 2) rfl; have d3 := v5.cell (i := 3) rfl; have d4 := v5.cell (i := 4) rfl; have d5 := v5.cell (i := 5) rfl; have v1 := hSw.own HO1.out H1X.out; have g0 := v1.cell (i := 0) rfl; have g1 := v1.cell (i := 1) rfl; have g2 := v1.cell (i := 2) rfl; have g3 := v1.cell (i := 3) rfl; have g4 := v1.cell (i := 4) rfl; have g5 := v1.cell (i := 5) rfl; have nm0 := hSw.names.cell (i := 0) rfl; clear v3 v5 v1; simp only [twoT, catT, takeT, badT, TV.d, List.length_nil] at a0 a1 a2 a3 a4 a5 d0 d1 d2 d3 d4 d5 g0 g1 g2 g3 g4 g5; go_simp; try (with_reducible rfl)
              try simp only [Act.put, List.setIfInBounds_toArray, List.set_cons_zero, List.set_cons_succ]
              refine takeH 27 (some 85) (v := ?_) rfl rfl (by kernel_rfl) (by kernel_rfl) (by kernel_rfl) (by rfl) ?_ (by exact hHeld) ?_
              rotate_left
              · intro w hSw; (try dsimp only at hSw); have m5 := hSw.n.cell (i := 0) rfl; have v3 := hSw.own HO3.out H3X.out; have a0 := v3.cell (i := 0) rfl; have a1 := v3.cell (i := 1) rfl; have a2 := v3.cell (i := 2) rfl; have a3 := v3.cell (i := 3) rfl; have a4 := v3.cell (i := 4) rfl; have a5 := v3.cell (i := 5) rfl; have v5 := hSw.own HO5.out H5X.out; have d0 := v5.cell (i := 0) rfl; have d1 := v5.cell (i := 1) rfl; have d2 := v5.cell (i := 2) rfl; have d3 := v5.cell (i := 3) rfl; have d4 := v5.cell (i := 4) rfl; have d5 := v5.cell (i := 5) rfl; have v1 := hSw.own HO1.out H1X.out; have g0 := v1.cell (i := 0) rfl; have g1 := v1.cell (i := 1) rfl; have g2 := v1.cell (i := 2) rfl; have g3 := v1.cell (i := 3) rfl; have g4 := v1.cell (i := 4) rfl; have g5 := v1.cell (i := 5) rfl; have nm0 := hSw.names.cell (i := 0) rfl; clear v3 v5 v1; simp only [twoT, catT, takeT, badT, TV.d, List.length_nil] at a0 a1 a2 a3 a4 a5 d0 d1 d2 d3 d4 d5 g0 g1 g2 g3 g4 g5; go_simp; try (with_reducible rfl)
              try simp only [Act.put, List.setIfInBounds_toArray, List.set_cons_zero, List.set_cons_succ]
              refine takeH 28 (some 86) (v := ?_) rfl rfl (by kernel_rfl) (by kernel_rfl) (by kernel_rfl) (by rfl) ?_ (by exact hHeld) ?_
              rotate_left
              · intro w hSw; (try dsimp only at hSw); have m5 := hSw.n.cell (i := 0) rfl; have v3 := hSw.own HO3.out H3X.out; have a0 := v3.cell (i := 0) rfl; have a1 := v3.cell (i := 1) rfl; have a2 := v3.cell (i := 2) rfl; have a3 := v3.cell (i := 3) rfl; have a4 := v3.cell (i := 4) rfl; have a5 := v3.cell (i := 5) rfl; have v5 := hSw.own HO5.out H5X.out; have d0 := v5.cell (i := 0) rfl; have d1 := v5.cell (i := 1) rfl; have d2 := v5.cell (i := 2) rfl; have d3 := v5.cell (i := 3) rfl; have d4 := v5.cell (i := 4) rfl; have d5 := v5.cell (i := 5) rfl; have v1 := hSw.own HO1.out H1X.out; have g0 := v1.cell (i := 0) rfl; have g1 := v1.cell (i := 1) rfl; have g2 := v1.cell (i := 2) rfl; have g3 := v1.cell (i := 3) rfl; have g4 := v1.cell (i := 4) rfl; have g5 := v1.cell (i := 5) rfl; have nm0 := hSw.names.cell (i := 0) rfl; clear v3 v5 v1; simp only [twoT, catT, takeT, badT, TV.d, List.length_nil] at a0 a1 a2 a3 a4 a5 d0 d1 d2 d3 d4 d5 g0 g1 g2 g3 g4 g5; go_simp; try (with_reducible rfl)
              try simp only [Act.put, List.setIfInBounds_toArray, List.set_cons_zero, List.set_cons_succ]
              refine wpAnyH_ready (rs := [29]) (by kernel_rfl) (by simp) ?_
              refine stepH 29 rfl (by rfl) (fun K hK => ?_) ?_
              · go_simp
                ((with_reducible refine (aw_same R B b2 _ ?_).mono ?_); (exact hHeld.tree HAT.out.take); rintro e29 w29 ⟨rfl, hb29⟩)
                refine hK.out _ _ ?_ (fun hNew => ?_)
                · (try dsimp only); first | exact hHeld.set _ | exact hKS _ _ (by first | exact hHeld | exact hS) (by first | assumption | (go_grown; done) | (refine from_drew ?_; go_grown; done))
                clear hK K hHeld
                have hHeld := hNew
                clear hNew
                try dsimp only at hHeld
                try simp only [Act.put, List.setIfInBounds_toArray, List.set_cons_zero, List.set_cons_succ]
                refine takeH 30 (some 88) (v := ?_) rfl rfl (by kernel_rfl) (by kernel_rfl) (by kernel_rfl) (by rfl) ?_ (by exact hHeld) ?_
                rotate_left
                · intro w hSw; (try dsimp only at hSw); have m5 := hSw.n.cell (i := 0) rfl; have v3 := hSw.own HO3.out H3X.out; have a0 := v3.cell (i := 0) rfl; have a1 := v3.cell (i := 1) rfl; have a2 := v3.cell (i := 2) rfl; have a3 := v3.cell (i := 3) rfl; have a4 := v3.cell (i := 4) rfl; have a5 := v3.cell (i := 5) rfl; have v5 := hSw.own HO5.out H5X.out; have d0 := v5.cell (i := 0) rfl; have d1 := v5.cell (i := 1) rfl; have d2 := v5.cell (i := 2) rfl; have d3 := v5.cell (i := 3) rfl; have d4 := v5.cell (i := 4) rfl; have d5 := v5.cell (i := 5) rfl; have v1 := hSw.own HO1.out H1X.out; have g0 := v1.cell (i := 0) rfl; have g1 := v1.cell (i := 1) rfl; have g2 := v1.cell (i := 2) rfl; have g3 := v1.cell (i := 3) rfl; have g4 := v1.cell (i := 4) rfl; have g5 := v1.cell (i := 5) rfl; have nm0 := hSw.names.cell (i := 0) rfl; clear v3 v5 v1; simp only [twoT, catT, takeT, badT, TV.d, List.length_nil] at a0 a1 a2 a3 a4 a5 d0 d1 d2 d3 d4 d5 g0 g1 g2 g3 g4 g5; go_simp; try (with_reducible rfl)
                try simp only [Act.put, List.setIfInBounds_toArray, List.set_cons_zero, List.set_cons_succ]
                refine takeH 31 (some 89) (v := ?_) rfl rfl (by kernel_rfl) (by kernel_rfl) (by kernel_rfl) (by rfl) ?_ (by exact hHeld) ?_
                rotate_left
                · intro w hSw; (try dsimp only at hSw); have m5 := hSw.n.cell (i := 0) rfl; have v3 := hSw.own HO3.out H3X.out; have a0 := v3.cell (i := 0) rfl; have a1 := v3.cell (i := 1) rfl; have a2 := v3.cell (i := 2) rfl; have a3 := v3.cell (i := 3) rfl; have a4 := v3.cell (i := 4) rfl; have a5 := v3.cell (i := 5) rfl; have v5 := hSw.own HO5.out H5X.out; have d0 := v5.cell (i := 0) rfl; have d1 := v5.cell (i := 1) rfl; have d2 := v5.cell (i := 2) rfl; have d3 := v5.cell (i := 3) rfl; have d4 := v5.cell (i := 4) rfl; have d5 := v5.cell (i := 5) rfl; have v1 := hSw.own HO1.out H1X.out; have g0 := v1.cell (i := 0) rfl; have g1 := v1.cell (i := 1) rfl; have g2 := v1.cell (i := 2) rfl; have g3 := v1.cell (i := 3) rfl; have g4 := v1.cell (i := 4) rfl; have g5 := v1.cell (i := 5) rfl; have nm0 := hSw.names.cell (i := 0) rfl; clear v3 v5 v1; simp only [twoT, catT, takeT, badT, TV.d, List.length_nil] at a0 a1 a2 a3 a4 a5 d0 d1 d2 d3 d4 d5 g0 g1 g2 g3 g4 g5; go_simp; try (with_reducible rfl)
                try simp only [Act.put, List.setIfInBounds_toArray, List.set_cons_zero, List.set_cons_succ]
                refine takeH 32 (some 90) (v := ?_) rfl rfl (by kernel_rfl) (by kernel_rfl) (by kernel_rfl) (by rfl) ?_ (by exact hHeld) ?_
                rotate_left
                · intro w hSw; (try dsimp only at hSw); have m5 := hSw.n.cell (i := 0) rfl; have v3 := hSw.own HO3.out H3X.out; have a0 := v3.cell (i := 0) rfl; have a1 := v3.cell (i := 1) rfl; have a2 := v3.cell (i := 2) rfl; have a3 := v3.cell (i := 3) rfl; have a4 := v3.cell (i := 4) rfl; have a5 := v3.cell (i := 5) rfl; have v5 := hSw.own HO5.out H5X.out; have d0 := v5.cell (i := 0) rfl; have d1 := v5.cell (i := 1) rfl; have d2 := v5.cell (i := 2) rfl; have d3 := v5.cell (i := 3) rfl; have d4 := v5.cell (i := 4) rfl; have d5 := v5.cell (i := 5) rfl; have v1 := hSw.own HO1.out H1X.out; have g0 := v1.cell (i := 0) rfl; have g1 := v1.cell (i := 1) rfl; have g2 := v1.cell (i := 2) rfl; have g3 := v1.cell (i := 3) rfl; have g4 := v1.cell (i := 4) rfl; have g5 := v1.cell (i := 5) rfl; have nm0 := hSw.names.cell (i := 0) rfl; clear v3 v5 v1; simp only [twoT, catT, takeT, badT, TV.d, List.length_nil] at a0 a1 a2 a3 a4 a5 d0 d1 d2 d3 d4 d5 g0 g1 g2 g3 g4 g5; go_simp; try (with_reducible rfl)
                try simp only [Act.put, List.setIfInBounds_toArray, List.set_cons_zero, List.set_cons_succ]
                refine takeH 33 (some 91) (v := ?_) rfl rfl (by kernel_rfl) (by kernel_rfl) (by kernel_rfl) (by rfl) ?_ (by exact hHeld) ?_
                rotate_left
                · intro w hSw; (try dsimp only at hSw); have m5 := hSw.n.cell (i := 0) rfl; have v3 := hSw.own HO3.out H3X.out; have a0 := v3.cell (i := 0) rfl; have a1 := v3.cell (i := 1) rfl; have a2 := v3.cell (i := 2) rfl; have a3 := v3.cell (i := 3) rfl; have a4 := v3.cell (i := 4) rfl; have a5 := v3.cell (i := 5) rfl; have v5 := hSw.own HO5.out H5X.out; have d0 := v5.cell (i := 0) rfl; have d1 := v5.cell (i := 1) rfl; have d2 := v5.cell (i := 2) rfl; have d3 := v5.cell (i := 3) rfl; have d4 := v5.cell (i := 4) rfl; have d5 := v5.cell (i := 5) rfl; have v1 := hSw.own HO1.out H1X.out; have g0 := v1.cell (i := 0) rfl; have g1 := v1.cell (i := 1) rfl; have g2 := v1.cell (i := 2) rfl; have g3 := v1.cell (i := 3) rfl; have g4 := v1.cell (i := 4) rfl; have g5 := v1.cell (i := 5) rfl; have nm0 := hSw.names.cell (i := 0) rfl; clear v3 v5 v1; simp only [twoT, catT, takeT, badT, TV.d, List.length_nil] at a0 a1 a2 a3 a4 a5 d0 d1 d2 d3 d4 d5 g0 g1 g2 g3 g4 g5; go_simp; try (with_reducible rfl)
                try simp only [Act.put, List.setIfInBounds_toArray, List.set_cons_zero, List.set_cons_succ]
                refine wpAnyH_ready (rs := [34]) (by kernel_rfl) (by simp) ?_
                refine stepH 34 rfl (by rfl) (fun K hK => ?_) ?_
                · go_simp
                  ((with_reducible refine (aw_other R B b2 _ ?_ ?_).mono ?_); (exact hHeld.tree HAT.out.take); (exact hHeld.tree HCAT.out); rintro e34 w34 ⟨rfl, hb34⟩)
                  refine hK.out _ _ ?_ (fun hNew => ?_)
                  · (try dsimp only); first | exact hHeld.set _ | exact hKS _ _ (by first | exact hHeld | exact hS) (by first | assumption | (go_grown; done) | (refine from_drew ?_; go_grown; done))
                  clear hK K hHeld
                  have hHeld := hNew
                  clear hNew
                  try dsimp only at hHeld
                  try simp only [Act.put, List.setIfInBounds_toArray, List.set_cons_zero, List.set_cons_succ]
                  refine takeH 35 (some 93) (v := ?_) rfl rfl (by kernel_rfl) (by kernel_rfl) (by kernel_rfl) (by rfl) ?_ (by exact hHeld) ?_
                  rotate_left
                  · intro w hSw; (try dsimp only at hSw); have m5 := hSw.n.cell (i := 0) rfl; have v3 := hSw.own HO3.out H3X.out; have a0 := v3.cell (i := 0) rfl; have a1 := v3.cell (i := 1) rfl; have a2 := v3.cell (i := 2) rfl; have a3 := v3.cell (i := 3) rfl; have a4 := v3.cell (i := 4) rfl; have a5 := v3.cell (i := 5) rfl; have v5 := hSw.own HO5.out H5X.out; have d0 := v5.cell (i := 0) rfl; have d1 := v5.cell (i := 1) rfl; have d2 := v5.cell (i := 2) rfl; have d3 := v5.cell (i := 3) rfl; have d4 := v5.cell (i := 4) rfl; have d5 := v5.cell (i := 5) rfl; have v1 := hSw.own HO1.out H1X.out; have g0 := v1.cell (i := 0) rfl; have g1 := v1.cell (i := 1) rfl; have g2 := v1.cell (i := 2) rfl; have g3 := v1.cell (i := 3) rfl; have g4 := v1.cell (i := 4) rfl; have g5 := v1.cell (i := 5) rfl; have nm0 := hSw.names.cell (i := 0) rfl; clear v3 v5 v1; simp only [twoT, catT, takeT, badT, TV.d, List.length_nil] at a0 a1 a2 a3 a4 a5 d0 d1 d2 d3 d4 d5 g0 g1 g2 g3 g4 g5; go_simp; try (with_reducible rfl)
                  try simp only [Act.put, List.setIfInBounds_toArray, List.set_cons_zero, List.set_cons_succ]
                  refine takeH 36 (some 94) (v := ?_) rfl rfl (by kernel_rfl) (by kernel_rfl) (by kernel_rfl) (by rfl) ?_ (by exact hHeld) ?_
                  rotate_left
                  · intro w hSw; (try dsimp only at hSw); have m5 := hSw.n.cell (i := 0) rfl; have v3 := hSw.own HO3.out H3X.out; have a0 := v3.cell (i := 0) rfl; have a1 := v3.cell (i := 1) rfl; have a2 := v3.cell (i := 2) rfl; have a3 := v3.cell (i := 3) rfl; have a4 := v3.cell (i := 4) rfl; have a5 := v3.cell (i := 5) rfl; have v5 := hSw.own HO5.out H5X.out; have d0 := v5.cell (i := 0) rfl; have d1 := v5.cell (i := 1) rfl; have d2 := v5.cell (i := 2) rfl; have d3 := v5.cell (i := 3) rfl; have d4 := v5.cell (i := 4) rfl; have d5 := v5.cell (i := 5) rfl; have v1 := hSw.own HO1.out H1X.out; have g0 := v1.cell (i := 0) rfl; have g1 := v1.cell (i := 1) rfl; have g2 := v1.cell (i := 2) rfl; have g3 := v1.cell (i := 3) rfl; have g4 := v1.cell (i := 4) rfl; have g5 := v1.cell (i := 5) rfl; have nm0 := hSw.names.cell (i := 0) rfl; clear v3 v5 v1; simp only [twoT, catT, takeT, badT, TV.d, List.length_nil] at a0 a1 a2 a3 a4 a5 d0 d1 d2 d3 d4 d5 g0 g1 g2 g3 g4 g5; go_simp; try (with_reducible rfl)
                  try simp only [Act.put, List.setIfInBounds_toArray, List.set_cons_zero, List.set_cons_succ]
                  refine takeH 37 (some 95) (v := ?_) rfl rfl (by kernel_rfl) (by kernel_rfl) (by kernel_rfl) (by rfl) ?_ (by exact hHeld) ?_
                  rotate_left
                  · intro w hSw; (try dsimp only at hSw); have m5 := hSw.n.cell (i := 0) rfl; have v3 := hSw.own HO3.out H3X.out; have a0 := v3.cell (i := 0) rfl; have a1 := v3.cell (i := 1) rfl; have a2 := v3.cell (i := 2) rfl; have a3 := v3.cell (i := 3) rfl; have a4 := v3.cell (i := 4) rfl; have a5 := v3.cell (i := 5) rfl; have v5 := hSw.own HO5.out H5X.out; have d0 := v5.cell (i := 0) rfl; have d1 := v5.cell (i := 1) rfl; have d2 := v5.cell (i := 2) rfl; have d3 := v5.cell (i := 3) rfl; have d4 := v5.cell (i := 4) rfl; have d5 := v5.cell (i := 5) rfl; have v1 := hSw.own HO1.out H1X.out; have g0 := v1.cell (i := 0) rfl; have g1 := v1.cell (i := 1) rfl; have g2 := v1.cell (i := 2) rfl; have g3 := v1.cell (i := 3) rfl; have g4 := v1.cell (i := 4) rfl; have g5 := v1.cell (i := 5) rfl; have nm0 := hSw.names.cell (i := 0) rfl; clear v3 v5 v1; simp only [twoT, catT, takeT, badT, TV.d, List.length_nil] at a0 a1 a2 a3 a4 a5 d0 d1 d2 d3 d4 d5 g0 g1 g2 g3 g4 g5; go_simp; try (with_reducible rfl)
                  try simp only [Act.put, List.setIfInBounds_toArray, List.set_cons_zero, List.set_cons_succ]
                  refine takeH 38 (some 96) (v := ?_) rfl rfl (by kernel_rfl) (by kernel_rfl) (by kernel_rfl) (by rfl) ?_ (by exact hHeld) ?_
                  rotate_left
                  · intro w hSw; (try dsimp only at hSw); have m5 := hSw.n.cell (i := 0) rfl; have v3 := hSw.own HO3.out H3X.out; have a0 := v3.cell (i := 0) rfl; have a1 := v3.cell (i := 1) rfl; have a2 := v3.cell (i := 2) rfl; have a3 := v3.cell (i := 3) rfl; have a4 := v3.cell (i := 4) rfl; have a5 := v3.cell (i := 5) rfl; have v5 := hSw.own HO5.out H5X.out; have d0 := v5.cell (i := 0) rfl; have d1 := v5.cell (i := 1) rfl; have d2 := v5.cell (i := 2) rfl; have d3 := v5.cell (i := 3) rfl; have d4 := v5.cell (i := 4) rfl; have d5 := v5.cell (i := 5) rfl; have v1 := hSw.own HO1.out H1X.out; have g0 := v1.cell (i := 0) rfl; have g1 := v1.cell (i := 1) rfl; have g2 := v1.cell (i := 2) rfl; have g3 := v1.cell (i := 3) rfl; have g4 := v1.cell (i := 4) rfl; have g5 := v1.cell (i := 5) rfl; have nm0 := hSw.names.cell (i := 0) rfl; clear v3 v5 v1; simp only [twoT, catT, takeT, badT, TV.d, List.length_nil] at a0 a1 a2 a3 a4 a5 d0 d1 d2 d3 d4 d5 g0 g1 g2 g3 g4 g5; go_simp; try (with_reducible rfl)
                  try simp only [Act.put, List.setIfInBounds_toArray, List.set_cons_zero, List.set_cons_succ]
                  refine takeH 40 (some 98) (v := ?_) rfl rfl (by kernel_rfl) (by kernel_rfl) (by kernel_rfl) (by rfl) ?_ (by exact hHeld) ?_
                  rotate_left
                  · intro w hSw; (try dsimp only at hSw); have m5 := hSw.n.cell (i := 0) rfl; have v3 := hSw.own HO3.out H3X.out; have a0 := v3.cell (i := 0) rfl; have a1 := v3.cell (i := 1) rfl; have a2 := v3.cell (i := 2) rfl; have a3 := v3.cell (i := 3) rfl; have a4 := v3.cell (i := 4) rfl; have a5 := v3.cell (i := 5) rfl; have v5 := hSw.own HO5.out H5X.out; have d0 := v5.cell (i := 0) rfl; have d1 := v5.cell (i := 1) rfl; have d2 := v5.cell (i := 2) rfl; have d3 := v5.cell (i := 3) rfl; have d4 := v5.cell (i := 4) rfl; have d5 := v5.cell (i := 5) rfl; have v1 := hSw.own HO1.out H1X.out; have g0 := v1.cell (i := 0) rfl; have g1 := v1.cell (i := 1) rfl; have g2 := v1.cell (i := 2) rfl; have g3 := v1.cell (i := 3) rfl; have g4 := v1.cell (i := 4) rfl; have g5 := v1.cell (i := 5) rfl; have nm0 := hSw.names.cell (i := 0) rfl; clear v3 v5 v1; simp only [twoT, catT, takeT, badT, TV.d, List.length_nil] at a0 a1 a2 a3 a4 a5 d0 d1 d2 d3 d4 d5 g0 g1 g2 g3 g4 g5; go_simp; try (with_reducible rfl)
                  try simp only [Act.put, List.setIfInBounds_toArray, List.set_cons_zero, List.set_cons_succ]
                  refine wpAnyH_ready (rs := [39]) (by kernel_rfl) (by simp) ?_
                  refine stepH 39 rfl (by rfl) (fun K hK => ?_) ?_
                  · go_simp
                    ((with_reducible refine (aw_copy R B b2 _ ?_).mono ?_); (exact hHeld.tree HAT.out.take); rintro e39 w39 ⟨t39, rfl, hT39, hs39, hb39⟩; have HT39 := Lib.hid hT39.tree; have HS39 := Lib.hid hs39; clear hT39 hs39)
                    refine hK.out _ _ ?_ (fun hNew => ?_)
                    · (try dsimp only); first | exact hHeld.set _ | exact hKS _ _ (by first | exact hHeld | exact hS) (by first | assumption | (go_grown; done) | (refine from_drew ?_; go_grown; done))
                    clear hK K hHeld
                    have hHeld := hNew
                    clear hNew
                    try dsimp only at hHeld
                    try simp only [Act.put, List.setIfInBounds_toArray, List.set_cons_zero, List.set_cons_succ]
                    refine wpAnyH_ready (rs := [41]) (by kernel_rfl) (by simp) ?_
                    refine stepH 41 rfl (by rfl) (fun K hK => ?_) ?_
                    · go_simp
                      ((with_reducible refine (aw_rsame R B b2 t39 _ HS39.out ?_ ?_).mono ?_); (exact HT39.out); (exact hHeld.tree HAT.out.take); rintro e41 w41 ⟨rfl, hb41⟩; have hA41 := hKS _ _ hHeld hb41; obtain ⟨u41, hu41⟩ := hA41.res; have c54 := hu41.cell (i := 0) rfl; have f54 := hu41.frozen 0; have O54 := Lib.hid (hu41.set (i := 0) (by simp) (.bool true)); clear hA41 hu41)
                      refine hK.out _ _ ?_ (fun hNew => ?_)
                      · (try dsimp only); first | exact hHeld.set _ | exact hKS _ _ (by first | exact hHeld | exact hS) (by first | assumption | (go_grown; done) | (refine from_drew ?_; go_grown; done))
                      clear hK K hHeld
                      have hHeld := hNew
                      clear hNew
                      try dsimp only at hHeld
                      try simp only [Act.put, List.setIfInBounds_toArray, List.set_cons_zero, List.set_cons_succ]
                      refine takeH 42 (some 100) (v := ?_) rfl rfl (by kernel_rfl) (by kernel_rfl) (by kernel_rfl) (by rfl) ?_ (by exact hHeld) ?_
                      rotate_left
                      · intro w hSw; (try dsimp only at hSw); have m5 := hSw.n.cell (i := 0) rfl; have v3 := hSw.own HO3.out H3X.out; have a0 := v3.cell (i := 0) rfl; have a1 := v3.cell (i := 1) rfl; have a2 := v3.cell (i := 2) rfl; have a3 := v3.cell (i := 3) rfl; have a4 := v3.cell (i := 4) rfl; have a5 := v3.cell (i := 5) rfl; have v5 := hSw.own HO5.out H5X.out; have d0 := v5.cell (i := 0) rfl; have d1 := v5.cell (i := 1) rfl; have d2 := v5.cell (i := 2) rfl; have d3 := v5.cell (i := 3) rfl; have d4 := v5.cell (i := 4) rfl; have d5 := v5.cell (i := 5) rfl; have v1 := hSw.own HO1.out H1X.out; have g0 := v1.cell (i := 0) rfl; have g1 := v1.cell (i := 1) rfl; have g2 := v1.cell (i := 2) rfl; have g3 := v1.cell (i := 3) rfl; have g4 := v1.cell (i := 4) rfl; have g5 := v1.cell (i := 5) rfl; have nm0 := hSw.names.cell (i := 0) rfl; clear v3 v5 v1; simp only [twoT, catT, takeT, badT, TV.d, List.length_nil] at a0 a1 a2 a3 a4 a5 d0 d1 d2 d3 d4 d5 g0 g1 g2 g3 g4 g5; go_simp; try (with_reducible rfl)
                      try simp only [Act.put, List.setIfInBounds_toArray, List.set_cons_zero, List.set_cons_succ]
                      refine takeH 43 (some 101) (v := ?_) rfl rfl (by kernel_rfl) (by kernel_rfl) (by kernel_rfl) (by rfl) ?_ (by exact hHeld) ?_
                      rotate_left
                      · intro w hSw; (try dsimp only at hSw); have m5 := hSw.n.cell (i := 0) rfl; have v3 := hSw.own HO3.out H3X.out; have a0 := v3.cell (i := 0) rfl; have a1 := v3.cell (i := 1) rfl; have a2 := v3.cell (i := 2) rfl; have a3 := v3.cell (i := 3) rfl; have a4 := v3.cell (i := 4) rfl; have a5 := v3.cell (i := 5) rfl; have v5 := hSw.own HO5.out H5X.out; have d0 := v5.cell (i := 0) rfl; have d1 := v5.cell (i := 1) rfl; have d2 := v5.cell (i := 2) rfl; have d3 := v5.cell (i := 3) rfl; have d4 := v5.cell (i := 4) rfl; have d5 := v5.cell (i := 5) rfl; have v1 := hSw.own HO1.out H1X.out; have g0 := v1.cell (i := 0) rfl; have g1 := v1.cell (i := 1) rfl; have g2 := v1.cell (i := 2) rfl; have g3 := v1.cell (i := 3) rfl; have g4 := v1.cell (i := 4) rfl; have g5 := v1.cell (i := 5) rfl; have nm0 := hSw.names.cell (i := 0) rfl; clear v3 v5 v1; simp only [twoT, catT, takeT, badT, TV.d, List.length_nil] at a0 a1 a2 a3 a4 a5 d0 d1 d2 d3 d4 d5 g0 g1 g2 g3 g4 g5; go_simp; try (with_reducible rfl)
                      try simp only [Act.put, List.setIfInBounds_toArray, List.set_cons_zero, List.set_cons_succ]
                      refine takeH 44 (some 102) (v := ?_) rfl rfl (by kernel_rfl) (by kernel_rfl) (by kernel_rfl) (by rfl) ?_ (by exact hHeld) ?_
                      rotate_left
                      · intro w hSw; (try dsimp only at hSw); have m5 := hSw.n.cell (i := 0) rfl; have v3 := hSw.own HO3.out H3X.out; have a0 := v3.cell (i := 0) rfl; have a1 := v3.cell (i := 1) rfl; have a2 := v3.cell (i := 2) rfl; have a3 := v3.cell (i := 3) rfl; have a4 := v3.cell (i := 4) rfl; have a5 := v3.cell (i := 5) rfl; have v5 := hSw.own HO5.out H5X.out; have d0 := v5.cell (i := 0) rfl; have d1 := v5.cell (i := 1) rfl; have d2 := v5.cell (i := 2) rfl; have d3 := v5.cell (i := 3) rfl; have d4 := v5.cell (i := 4) rfl; have d5 := v5.cell (i := 5) rfl; have v1 := hSw.own HO1.out H1X.out; have g0 := v1.cell (i := 0) rfl; have g1 := v1.cell (i := 1) rfl; have g2 := v1.cell (i := 2) rfl; have g3 := v1.cell (i := 3) rfl; have g4 := v1.cell (i := 4) rfl; have g5 := v1.cell (i := 5) rfl; have nm0 := hSw.names.cell (i := 0) rfl; clear v3 v5 v1; simp only [twoT, catT, takeT, badT, TV.d, List.length_nil] at a0 a1 a2 a3 a4 a5 d0 d1 d2 d3 d4 d5 g0 g1 g2 g3 g4 g5; go_simp; try (with_reducible rfl)
                      try simp only [Act.put, List.setIfInBounds_toArray, List.set_cons_zero, List.set_cons_succ]
                      refine takeH 45 (some 103) (v := ?_) rfl rfl (by kernel_rfl) (by kernel_rfl) (by kernel_rfl) (by rfl) ?_ (by exact hHeld) ?_
                      rotate_left
                      · intro w hSw; (try dsimp only at hSw); have m5 := hSw.n.cell (i := 0) rfl; have v3 := hSw.own HO3.out H3X.out; have a0 := v3.cell (i := 0) rfl; have a1 := v3.cell (i := 1) rfl; have a2 := v3.cell (i := 2) rfl; have a3 := v3.cell (i := 3) rfl; have a4 := v3.cell (i := 4) rfl; have a5 := v3.cell (i := 5) rfl; have v5 := hSw.own HO5.out H5X.out; have d0 := v5.cell (i := 0) rfl; have d1 := v5.cell (i := 1) rfl; have d2 := v5.cell (i := 2) rfl; have d3 := v5.cell (i := 3) rfl; have d4 := v5.cell (i := 4) rfl; have d5 := v5.cell (i := 5) rfl; have v1 := hSw.own HO1.out H1X.out; have g0 := v1.cell (i := 0) rfl; have g1 := v1.cell (i := 1) rfl; have g2 := v1.cell (i := 2) rfl; have g3 := v1.cell (i := 3) rfl; have g4 := v1.cell (i := 4) rfl; have g5 := v1.cell (i := 5) rfl; have nm0 := hSw.names.cell (i := 0) rfl; clear v3 v5 v1; simp only [twoT, catT, takeT, badT, TV.d, List.length_nil] at a0 a1 a2 a3 a4 a5 d0 d1 d2 d3 d4 d5 g0 g1 g2 g3 g4 g5; go_simp; try (with_reducible rfl)
                      try simp only [Act.put, List.setIfInBounds_toArray, List.set_cons_zero, List.set_cons_succ]
                      refine takeH 46 (some 104) (v := ?_) rfl rfl (by kernel_rfl) (by kernel_rfl) (by kernel_rfl) (by rfl) ?_ (by exact hHeld) ?_
                      rotate_left
                      · intro w hSw; (try dsimp only at hSw); have m5 := hSw.n.cell (i := 0) rfl; have v3 := hSw.own HO3.out H3X.out; have a0 := v3.cell (i := 0) rfl; have a1 := v3.cell (i := 1) rfl; have a2 := v3.cell (i := 2) rfl; have a3 := v3.cell (i := 3) rfl; have a4 := v3.cell (i := 4) rfl; have a5 := v3.cell (i := 5) rfl; have v5 := hSw.own HO5.out H5X.out; have d0 := v5.cell (i := 0) rfl; have d1 := v5.cell (i := 1) rfl; have d2 := v5.cell (i := 2) rfl; have d3 := v5.cell (i := 3) rfl; have d4 := v5.cell (i := 4) rfl; have d5 := v5.cell (i := 5) rfl; have v1 := hSw.own HO1.out H1X.out; have g0 := v1.cell (i := 0) rfl; have g1 := v1.cell (i := 1) rfl; have g2 := v1.cell (i := 2) rfl; have g3 := v1.cell (i := 3) rfl; have g4 := v1.cell (i := 4) rfl; have g5 := v1.cell (i := 5) rfl; have nm0 := hSw.names.cell (i := 0) rfl; clear v3 v5 v1; simp only [twoT, catT, takeT, badT, TV.d, List.length_nil] at a0 a1 a2 a3 a4 a5 d0 d1 d2 d3 d4 d5 g0 g1 g2 g3 g4 g5; go_simp; try (with_reducible rfl)
                      try simp only [Act.put, List.setIfInBounds_toArray, List.set_cons_zero, List.set_cons_succ]
                      refine takeH 47 (some 105) (v := ?_) rfl rfl (by kernel_rfl) (by kernel_rfl) (by kernel_rfl) (by rfl) ?_ (by exact hHeld) ?_
                      rotate_left
                      · intro w hSw; (try dsimp only at hSw); have m5 := hSw.n.cell (i := 0) rfl; have v3 := hSw.own HO3.out H3X.out; have a0 := v3.cell (i := 0) rfl; have a1 := v3.cell (i := 1) rfl; have a2 := v3.cell (i := 2) rfl; have a3 := v3.cell (i := 3) rfl; have a4 := v3.cell (i := 4) rfl; have a5 := v3.cell (i := 5) rfl; have v5 := hSw.own HO5.out H5X.out; have d0 := v5.cell (i := 0) rfl; have d1 := v5.cell (i := 1) rfl; have d2 := v5.cell (i := 2) rfl; have d3 := v5.cell (i := 3) rfl; have d4 := v5.cell (i := 4) rfl; have d5 := v5.cell (i := 5) rfl; have v1 := hSw.own HO1.out H1X.out; have g0 := v1.cell (i := 0) rfl; have g1 := v1.cell (i := 1) rfl; have g2 := v1.cell (i := 2) rfl; have g3 := v1.cell (i := 3) rfl; have g4 := v1.cell (i := 4) rfl; have g5 := v1.cell (i := 5) rfl; have nm0 := hSw.names.cell (i := 0) rfl; clear v3 v5 v1; simp only [twoT, catT, takeT, badT, TV.d, List.length_nil] at a0 a1 a2 a3 a4 a5 d0 d1 d2 d3 d4 d5 g0 g1 g2 g3 g4 g5; go_simp; try (with_reducible rfl)
                      try simp only [Act.put, List.setIfInBounds_toArray, List.set_cons_zero, List.set_cons_succ]
                      refine takeH 48 (some 106) (v := ?_) rfl rfl (by kernel_rfl) (by kernel_rfl) (by kernel_rfl) (by rfl) ?_ (by exact hHeld) ?_
                      rotate_left
                      · intro w hSw; (try dsimp only at hSw); have m5 := hSw.n.cell (i := 0) rfl; have v3 := hSw.own HO3.out H3X.out; have a0 := v3.cell (i := 0) rfl; have a1 := v3.cell (i := 1) rfl; have a2 := v3.cell (i := 2) rfl; have a3 := v3.cell (i := 3) rfl; have a4 := v3.cell (i := 4) rfl; have a5 := v3.cell (i := 5) rfl; have v5 := hSw.own HO5.out H5X.out; have d0 := v5.cell (i := 0) rfl; have d1 := v5.cell (i := 1) rfl; have d2 := v5.cell (i := 2) rfl; have d3 := v5.cell (i := 3) rfl; have d4 := v5.cell (i := 4) rfl; have d5 := v5.cell (i := 5) rfl; have v1 := hSw.own HO1.out H1X.out; have g0 := v1.cell (i := 0) rfl; have g1 := v1.cell (i := 1) rfl; have g2 := v1.cell (i := 2) rfl; have g3 := v1.cell (i := 3) rfl; have g4 := v1.cell (i := 4) rfl; have g5 := v1.cell (i := 5) rfl; have nm0 := hSw.names.cell (i := 0) rfl; clear v3 v5 v1; simp only [twoT, catT, takeT, badT, TV.d, List.length_nil] at a0 a1 a2 a3 a4 a5 d0 d1 d2 d3 d4 d5 g0 g1 g2 g3 g4 g5; go_simp; try (with_reducible rfl)
                      try simp only [Act.put, List.setIfInBounds_toArray, List.set_cons_zero, List.set_cons_succ]
                      refine takeH 49 (some 107) (v := ?_) rfl rfl (by kernel_rfl) (by kernel_rfl) (by kernel_rfl) (by rfl) ?_ (by exact hHeld) ?_
                      rotate_left
                      · intro w hSw; (try dsimp only at hSw); have m5 := hSw.n.cell (i := 0) rfl; have v3 := hSw.own HO3.out H3X.out; have a0 := v3.cell (i := 0) rfl; have a1 := v3.cell (i := 1) rfl; have a2 := v3.cell (i := 2) rfl; have a3 := v3.cell (i := 3) rfl; have a4 := v3.cell (i := 4) rfl; have a5 := v3.cell (i := 5) rfl; have v5 := hSw.own HO5.out H5X.out; have d0 := v5.cell (i := 0) rfl; have d1 := v5.cell (i := 1) rfl; have d2 := v5.cell (i := 2) rfl; have d3 := v5.cell (i := 3) rfl; have d4 := v5.cell (i := 4) rfl; have d5 := v5.cell (i := 5) rfl; have v1 := hSw.own HO1.out H1X.out; have g0 := v1.cell (i := 0) rfl; have g1 := v1.cell (i := 1) rfl; have g2 := v1.cell (i := 2) rfl; have g3 := v1.cell (i := 3) rfl; have g4 := v1.cell (i := 4) rfl; have g5 := v1.cell (i := 5) rfl; have nm0 := hSw.names.cell (i := 0) rfl; clear v3 v5 v1; simp only [twoT, catT, takeT, badT, TV.d, List.length_nil] at a0 a1 a2 a3 a4 a5 d0 d1 d2 d3 d4 d5 g0 g1 g2 g3 g4 g5; go_simp; try (with_reducible rfl)
                      try simp only [Act.put, List.setIfInBounds_toArray, List.set_cons_zero, List.set_cons_succ]
                      refine takeH 50 (some 108) (v := ?_) rfl rfl (by kernel_rfl) (by kernel_rfl) (by kernel_rfl) (by rfl) ?_ (by exact hHeld) ?_
                      rotate_left
                      · intro w hSw; (try dsimp only at hSw); have m5 := hSw.n.cell (i := 0) rfl; have v3 := hSw.own HO3.out H3X.out; have a0 := v3.cell (i := 0) rfl; have a1 := v3.cell (i := 1) rfl; have a2 := v3.cell (i := 2) rfl; have a3 := v3.cell (i := 3) rfl; have a4 := v3.cell (i := 4) rfl; have a5 := v3.cell (i := 5) rfl; have v5 := hSw.own HO5.out H5X.out; have d0 := v5.cell (i := 0) rfl; have d1 := v5.cell (i := 1) rfl; have d2 := v5.cell (i := 2) rfl; have d3 := v5.cell (i := 3) rfl; have d4 := v5.cell (i := 4) rfl; have d5 := v5.cell (i := 5) rfl; have v1 := hSw.own HO1.out H1X.out; have g0 := v1.cell (i := 0) rfl; have g1 := v1.cell (i := 1) rfl; have g2 := v1.cell (i := 2) rfl; have g3 := v1.cell (i := 3) rfl; have g4 := v1.cell (i := 4) rfl; have g5 := v1.cell (i := 5) rfl; have nm0 := hSw.names.cell (i := 0) rfl; clear v3 v5 v1; simp only [twoT, catT, takeT, badT, TV.d, List.length_nil] at a0 a1 a2 a3 a4 a5 d0 d1 d2 d3 d4 d5 g0 g1 g2 g3 g4 g5; go_simp; try (with_reducible rfl)
                      try simp only [Act.put, List.setIfInBounds_toArray, List.set_cons_zero, List.set_cons_succ]
                      refine takeH 51 (some 109) (v := ?_) rfl rfl (by kernel_rfl) (by kernel_rfl) (by kernel_rfl) (by rfl) ?_ (by exact hHeld) ?_
                      rotate_left
                      · intro w hSw; (try dsimp only at hSw); have m5 := hSw.n.cell (i := 0) rfl; have v3 := hSw.own HO3.out H3X.out; have a0 := v3.cell (i := 0) rfl; have a1 := v3.cell (i := 1) rfl; have a2 := v3.cell (i := 2) rfl; have a3 := v3.cell (i := 3) rfl; have a4 := v3.cell (i := 4) rfl; have a5 := v3.cell (i := 5) rfl; have v5 := hSw.own HO5.out H5X.out; have d0 := v5.cell (i := 0) rfl; have d1 := v5.cell (i := 1) rfl; have d2 := v5.cell (i := 2) rfl; have d3 := v5.cell (i := 3) rfl; have d4 := v5.cell (i := 4) rfl; have d5 := v5.cell (i := 5) rfl; have v1 := hSw.own HO1.out H1X.out; have g0 := v1.cell (i := 0) rfl; have g1 := v1.cell (i := 1) rfl; have g2 := v1.cell (i := 2) rfl; have g3 := v1.cell (i := 3) rfl; have g4 := v1.cell (i := 4) rfl; have g5 := v1.cell (i := 5) rfl; have nm0 := hSw.names.cell (i := 0) rfl; clear v3 v5 v1; simp only [twoT, catT, takeT, badT, TV.d, List.length_nil] at a0 a1 a2 a3 a4 a5 d0 d1 d2 d3 d4 d5 g0 g1 g2 g3 g4 g5; go_simp; try (with_reducible rfl)
                      try simp only [Act.put, List.setIfInBounds_toArray, List.set_cons_zero, List.set_cons_succ]
                      refine takeH 52 (some 110) (v := ?_) rfl rfl (by kernel_rfl) (by kernel_rfl) (by kernel_rfl) (by rfl) ?_ (by exact hHeld) ?_
                      rotate_left
                      · intro w hSw; (try dsimp only at hSw); have m5 := hSw.n.cell (i := 0) rfl; have v3 := hSw.own HO3.out H3X.out; have a0 := v3.cell (i := 0) rfl; have a1 := v3.cell (i := 1) rfl; have a2 := v3.cell (i := 2) rfl; have a3 := v3.cell (i := 3) rfl; have a4 := v3.cell (i := 4) rfl; have a5 := v3.cell (i := 5) rfl; have v5 := hSw.own HO5.out H5X.out; have d0 := v5.cell (i := 0) rfl; have d1 := v5.cell (i := 1) rfl; have d2 := v5.cell (i := 2) rfl; have d3 := v5.cell (i := 3) rfl; have d4 := v5.cell (i := 4) rfl; have d5 := v5.cell (i := 5) rfl; have v1 := hSw.own HO1.out H1X.out; have g0 := v1.cell (i := 0) rfl; have g1 := v1.cell (i := 1) rfl; have g2 := v1.cell (i := 2) rfl; have g3 := v1.cell (i := 3) rfl; have g4 := v1.cell (i := 4) rfl; have g5 := v1.cell (i := 5) rfl; have nm0 := hSw.names.cell (i := 0) rfl; clear v3 v5 v1; simp only [twoT, catT, takeT, badT, TV.d, List.length_nil] at a0 a1 a2 a3 a4 a5 d0 d1 d2 d3 d4 d5 g0 g1 g2 g3 g4 g5; go_simp; try (with_reducible rfl)
                      try simp only [Act.put, List.setIfInBounds_toArray, List.set_cons_zero, List.set_cons_succ]
                      refine takeH 53 (some 111) (v := ?_) rfl rfl (by kernel_rfl) (by kernel_rfl) (by kernel_rfl) (by rfl) ?_ (by exact hHeld) ?_
                      rotate_left
                      · intro w hSw; (try dsimp only at hSw); have m5 := hSw.n.cell (i := 0) rfl; have v3 := hSw.own HO3.out H3X.out; have a0 := v3.cell (i := 0) rfl; have a1 := v3.cell (i := 1) rfl; have a2 := v3.cell (i := 2) rfl; have a3 := v3.cell (i := 3) rfl; have a4 := v3.cell (i := 4) rfl; have a5 := v3.cell (i := 5) rfl; have v5 := hSw.own HO5.out H5X.out; have d0 := v5.cell (i := 0) rfl; have d1 := v5.cell (i := 1) rfl; have d2 := v5.cell (i := 2) rfl; have d3 := v5.cell (i := 3) rfl; have d4 := v5.cell (i := 4) rfl; have d5 := v5.cell (i := 5) rfl; have v1 := hSw.own HO1.out H1X.out; have g0 := v1.cell (i := 0) rfl; have g1 := v1.cell (i := 1) rfl; have g2 := v1.cell (i := 2) rfl; have g3 := v1.cell (i := 3) rfl; have g4 := v1.cell (i := 4) rfl; have g5 := v1.cell (i := 5) rfl; have nm0 := hSw.names.cell (i := 0) rfl; clear v3 v5 v1; simp only [twoT, catT, takeT, badT, TV.d, List.length_nil] at a0 a1 a2 a3 a4 a5 d0 d1 d2 d3 d4 d5 g0 g1 g2 g3 g4 g5; go_simp; try (with_reducible rfl)
                      try simp only [Act.put, List.setIfInBounds_toArray, List.set_cons_zero, List.set_cons_succ]
                      refine wpAnyH_ready (rs := [54]) (by kernel_rfl) (by simp) ?_
                      refine stepH 54 rfl (by rfl) (fun K hK => ?_) ?_
                      · go_simp
                        refine hK.out _ _ ?_ (fun hNew => ?_)
                        · (try dsimp only); first | exact hHeld.set _ | exact hKS _ _ (by first | exact hHeld | exact hS) (by first | assumption | (go_grown; done) | (refine from_drew ?_; go_grown; done))
                        clear hK K hHeld
                        have hHeld := hNew
                        clear hNew
                        try dsimp only at hHeld
                        try simp only [Act.put, List.setIfInBounds_toArray, List.set_cons_zero, List.set_cons_succ]
                        refine wpAnyH_done (by kernel_rfl) ?_ _
                        refine NoPanic.normal ?_
                        have HF := Lib.hid hHeld
                        clear hHeld c54 f54 hS hb4 hb8 hb13 hb18 hb23 hb29 hb34 hb39 hb41
                        go_wp2_with fail
                        refine ⟨by simp, .inl ⟨_, _, rfl, run_takeDeferred HF.out.dfr, ?_⟩⟩
                        have c1 := (O54.out.grown (grownBy_putObj' _ D (.deferred none)) (fun e => by cases e; have := HF.out.hX; omega)).cell (i := 0) rfl
                        refine ⟨.bool true, ?_, rfl, HF.out.low.grown (grownBy_putObj' _ _ _) HF.out.low.size (fun r e => by cases e; have := HF.out.hX; omega)⟩
                        clear O54 HF
                        simp [results, Try.f8, go_sem, c1]
                      exact AllReadyH.nil
                    exact AllReadyH.nil
                  exact AllReadyH.nil
                exact AllReadyH.nil
              exact AllReadyH.nil
            exact AllReadyH.nil
          exact AllReadyH.nil
        exact AllReadyH.nil
      exact AllReadyH.nil
    exact AllReadyH.nil
  case stop =>
    rintro D c pre V _ _ _ hf _
    exact hf.elim
end Go.Proofs.Ytjehgcmcphgofaa
