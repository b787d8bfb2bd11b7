/- TreeSteps, walked. No condition. -/
import Derived.Test.YtjehgcmcphgofaaTrRound
namespace Go.Proofs.Ytjehgcmcphgofaa
open Go.RowKit Go.Shelf
set_option linter.unusedVariables false
set_option linter.unusedSimpArgs false
attribute [local go_sem] Oper.semAt_some

theorem st_facts {st : Int} (h : 0 ≤ st ∧ st ≤ 255) : wrap64 st = st ∧ IntKind.i64.wrap st = st ∧ wrap64 (st + 1) = st + 1 ∧ IntKind.i64.wrap (st + 1) = st + 1 := ⟨wrap64_id (by omega) (by omega), wrapK_id (by omega) (by omega), wrap64_id (by omega) (by omega), wrapK_id (by omega) (by omega)⟩
theorem len_facts {pre : List TV} {k x : TV} (hmap : pre ++ [k] = (stepsT x).take (pre.length + 1)) (hs : sizeT x ≤ 300) : pre.length < (stepsT x).length ∧ (stepsT x)[pre.length]? = some k ∧ wrap64 ((pre.length : Int) + 1) = pre.length + 1 ∧ IntKind.i64.wrap ((pre.length : Int) + 1) = pre.length + 1 := by
  have h1 := congrArg List.length hmap
  have h2 := hs
  rw [← stepsT_len] at h2
  simp at h1
  have h3 : (stepsT x)[pre.length]? = some k := by
    have := congrArg (fun l => l[pre.length]?) hmap
    rw [List.getElem?_append_right (Nat.le_refl _), Nat.sub_self, List.getElem?_take_of_lt (by omega)] at this
    exact this.symm
  exact ⟨by omega, h3, wrap64_id (by omega) (by omega), wrapK_id (by omega) (by omega)⟩
theorem step_stop {pre : List TV} {k : TV} {st : Int} (h : (pre.length : Int) ≤ st) (hk : st < (pre.length : Int) + 1) : ((pre ++ [k]).length : Int) = st + 1 := by
  rw [List.length_append, List.length_singleton]
  omega
theorem step_go {pre : List TV} {k : TV} {st : Int} (hk : ¬ st < (pre.length : Int) + 1) : ((pre ++ [k]).length : Int) ≤ st := by
  rw [List.length_append, List.length_singleton]
  omega
theorem steps_round {W4 V z : World} {bn N M n X : Nat} {st : Int} (h1 : Below W4.heap.size W4 V) (h2 : Own V bn 3 [.int .i64 (n : Int)]) (h3 : N ≤ V.heap.size) (hX : Own W4 X 5 [.int .u8 st]) (hb : Below V.heap.size V z) (ho : W4.heap.size ≤ bn ∧ bn < M ∧ M ≤ N) :
    KpS W4.heap.size (fun k => M ≤ k) V (z.setCell ⟨bn, 0, none⟩ (.int .i64 ((n : Int) + 1))) ∧ Below W4.heap.size W4 (z.setCell ⟨bn, 0, none⟩ (.int .i64 ((n : Int) + 1))) ∧
    (Own (z.setCell ⟨bn, 0, none⟩ (.int .i64 ((n : Int) + 1))) bn 3 [.int .i64 ((n : Int) + 1)] ∧ N ≤ (z.setCell ⟨bn, 0, none⟩ (.int .i64 ((n : Int) + 1))).heap.size) ∧ Own (z.setCell ⟨bn, 0, none⟩ (.int .i64 ((n : Int) + 1))) X 5 [.int .u8 st] := by
  have hg := grownBy_setCell' z bn (.int .i64 ((n : Int) + 1))
  have hgs := hg.size
  have hbs := hb.size
  have l1 : Below W4.heap.size W4 z := below_t h1 hb
  have hlt := hX.lt
  exact ⟨(KpS.of hb h1.size).trans (KpS.grown hg l1.size fun r e => by cases e; exact ⟨ho.1, fun h => by omega⟩), l1.grown hg l1.size fun r e => by cases e; exact ho.1, ⟨(h2.keep hb h2.lt).set (i := 0) (by simp) _, by omega⟩, (hX.keep l1 hlt).other (by show bn ≠ X; omega) _⟩
theorem steps_end {w V V' : World} {X D : Nat} {u : Value} (hl : Below w.heap.size w V) (ho : Own V X 4 [u]) (hK : V.heap[D]? = some (.deferred (some []))) (hb : Below V.heap.size V V') (hX : w.heap.size ≤ X ∧ w.heap.size ≤ D) (hne : X ≠ D) :
    Own V' X 4 [u] ∧ (V'.setCell ⟨X, 0, none⟩ (.bool true)).heap[D]? = some (.deferred (some [])) ∧ ((V'.setCell ⟨X, 0, none⟩ (.bool true)).putObj D (.deferred none)).cell? ⟨X, 0, none⟩ = some (.bool true) ∧ Below w.heap.size w ((V'.setCell ⟨X, 0, none⟩ (.bool true)).putObj D (.deferred none)) := by
  have o1 := ho.keep hb ho.lt
  have k1 := (Below.heap_setCell V' ⟨X, 0, none⟩ (.bool true) D (by show D ≠ X; omega)).trans ((hb.block D (Array.getElem?_eq_some_iff.1 hK).1).trans hK)
  have l1 := (below_t hl hb).setCell (p := ⟨X, 0, none⟩) hX.1 (.bool true)
  exact ⟨o1, k1, ((o1.set (i := 0) (by simp) (.bool true)).grown (grownBy_putObj' _ D (.deferred none)) (fun e => hne (by cases e; rfl))).cell (i := 0) rfl, l1.grown (grownBy_putObj' _ _ _) l1.size fun r e => by cases e; exact hX.2⟩
theorem steps_boxes (w : World) (d : TD) (st : Int) : ∃ W X3 X4, X3 = w.heap.size + 1 ∧ X4 = w.heap.size + 1 + 1 ∧ ((w.alloc (.cells #[.int .i64 d.kind, .int .i64 d.fn, .int .i64 d.axis, .string d.name, .slice d.np d.nums.length d.nc, .slice d.kp d.n d.kc] 25)).alloc (.cells #[.int .u8 st] 5)).alloc (.cells #[.bool false] 4) = W ∧
    Own W w.heap.size 25 [.int .i64 d.kind, .int .i64 d.fn, .int .i64 d.axis, .string d.name, .slice d.np d.nums.length d.nc, .slice d.kp d.n d.kc] ∧ Own W X3 5 [.int .u8 st] ∧ Own W X4 4 [.bool false] ∧ Below w.heap.size w W ∧ W.heap.size = w.heap.size + 3 := by
  refine ⟨_, _, _, rfl, rfl, rfl, ?_, ?_, ?_, below_t (below_t (below_alloc _ _) (below_alloc _ _)) (below_alloc _ _), by simp⟩
  · exact ((Own.made w _ [.int .i64 d.kind, .int .i64 d.fn, .int .i64 d.axis, .string d.name, .slice d.np d.nums.length d.nc, .slice d.kp d.n d.kc] _ rfl).keep (below_alloc _ _) (by simp)).keep (below_alloc _ _) (by simp; omega)
  · exact (Own.made _ _ [.int .u8 st] _ (by simp)).keep (below_alloc _ _) (by simp)
  · exact Own.made _ _ [.bool false] _ (by simp)

set_option maxRecDepth 100000 in
set_option maxHeartbeats 4000000 in
theorem TreeSteps_law (x : TV) (st : Int) (w : World) (h : TreeIn w x) (hN : NamesIn x) (hM : NumsIn x) (hst : 0 ≤ st ∧ st ≤ 255) :
    Calls Try.prog 5 #[.agg #[.int .i64 x.d.kind, .int .i64 x.d.fn, .int .i64 x.d.axis, .string x.d.name, .slice x.d.np x.d.nums.length x.d.nc, .slice x.d.kp x.d.n x.d.kc], .int .u8 st] w fun e w' => e = .returned (.bool true) ∧ Below w.heap.size w w' := by
  obtain ⟨W, X3, X4, hX3, hX4, hW, oX, o3, o4, hba, hs0⟩ := steps_boxes w x.d st
  obtain ⟨f, hf⟩ : ∃ f, (fewT x 300 && rightT x) = f := ⟨_, rfl⟩
  have HF := Lib.hid hf
  have HST := Lib.hid hst
  have HN := Lib.hid hN
  have HT0 := Lib.hid h
  have HT := Lib.hid (h.keep hba)
  have HOX := Lib.hid oX
  have HO3 := Lib.hid o3
  have HO4 := Lib.hid o4
  have HB := Lib.hid hba
  have HW := Lib.hid hW
  have HX3 := Lib.hid hX3
  have HX4 := Lib.hid hX4
  have HS0 := Lib.hid hs0
  clear hW hba oX o3 o4 hf hN hM h hst hX3 hX4 hs0
  refine (callsIn_wide (n := 4)).1 ?_
  refine callsIn_of_wp_marks Try.func5 rfl trivial ?_ rfl
  simp only [Try.ntmps5, List.size_toArray, List.length_cons, List.length_nil, Nat.reduceAdd, Nat.reduceSub, Array.replicate_succ, Array.replicate_zero, List.push_toArray, List.append_toArray, List.nil_append, List.cons_append]
  refine wpIn_wide.2 ?_
  go_wp2_with fail
  rw [HW.out, ← HX4.out, ← HX3.out]
  clear HW
  refine (awake08 W).mono ?_
  rintro e1 w1 ⟨rfl, hb1⟩
  have HT := Lib.hid (HT.out.keep hb1)
  have HB := Lib.hid (below_t HB.out hb1)
  have HOX := Lib.hid (HOX.out.keep hb1 HOX.out.lt)
  have HO3 := Lib.hid (HO3.out.keep hb1 HO3.out.lt)
  have HO4 := Lib.hid (HO4.out.keep hb1 HO4.out.lt)
  have c0 := HOX.out.cell (i := 0) rfl
  have c1 := HOX.out.cell (i := 1) rfl
  have c2 := HOX.out.cell (i := 2) rfl
  have c3 := HOX.out.cell (i := 3) rfl
  have c4 := HOX.out.cell (i := 4) rfl
  have c5 := HOX.out.cell (i := 5) rfl
  have HZ1 : Hid (w.heap.size + 3 ≤ w1.heap.size) := by have := hb1.size; have := HS0.out; simp only [Hid]; omega
  clear hb1
  go_wp2_with fail
  refine (Small_any x w1 HN.out HT.out f HF.out).mono ?_
  rintro e2 w2 ⟨rfl, hb2⟩
  clear c0 c1 c2 c3 c4 c5
  have HT := Lib.hid (HT.out.keep hb2)
  have HB := Lib.hid (below_t HB.out hb2)
  have HOX := Lib.hid (HOX.out.keep hb2 HOX.out.lt)
  have HO3 := Lib.hid (HO3.out.keep hb2 HO3.out.lt)
  have HO4 := Lib.hid (HO4.out.keep hb2 HO4.out.lt)
  have HZ2 : Hid (w.heap.size + 3 ≤ w2.heap.size) := Nat.le_trans HZ1.out hb2.size
  clear hb2
  cases f with
  | false =>
    go_wp2_with fail
    refine (awake08 w2).mono ?_
    rintro e3 w3 ⟨rfl, hb3⟩
    have o4 := HO4.out.keep hb3 HO4.out.lt
    have k4 := o4.cell (i := 0) rfl
    have f4 := o4.frozen 0
    have HBz := Lib.hid ((below_t HB.out hb3).setCell (p := ⟨X4, 0, none⟩) (by have := HX4.out; show w.heap.size ≤ X4; omega) (.bool true))
    have k5 := (o4.set (i := 0) (by simp) (.bool true)).cell (i := 0) rfl
    clear hb3 o4
    go_wp2_with fail
    exact ⟨_, (by simp [results, Try.results5, go_sem, k5] : (results Try.f5 _).run Try.prog _ = .ok (.bool true) _), rfl, HBz.out⟩
  | true =>
    have hff := HF.out
    simp only [Bool.and_eq_true] at hff
    have HS : Hid (sizeT x ≤ 300) := by have := few_size hff.1; simp only [Hid]; omega
    have HS6 : Hid (sizeT x ≤ 1000000) := Nat.le_trans HS.out (by decide)
    clear hff
    have c0 := HOX.out.cell (i := 0) rfl
    have c1 := HOX.out.cell (i := 1) rfl
    have c2 := HOX.out.cell (i := 2) rfl
    have c3 := HOX.out.cell (i := 3) rfl
    have c4 := HOX.out.cell (i := 4) rfl
    have c5 := HOX.out.cell (i := 5) rfl
    go_wp2_with fail
    refine (RSteps_any x w2 HS6.out HT.out).mono ?_
    rintro e3 w3 ⟨pw, cw, rfl, hNod, hb3⟩
    clear c0 c1 c2 c3 c4 c5
    obtain ⟨L, hL⟩ : ∃ L, stepsT x = L := ⟨_, rfl⟩
    rw [hL] at hNod ⊢
    have hLs : L.length ≤ 300 := by rw [← hL, stepsT_len]; exact HS.out
    have hb4 := below_alloc w3 (.cells #[.slice pw L.length cw] 23)
    have HNod := Lib.hid (hNod.keep hb4)
    have o5 := Own.made w3 _ [.slice pw L.length cw] 23 rfl
    have hb34 := below_t hb3 hb4
    have oX4 := HOX.out.keep hb34 HOX.out.lt
    have HO3 := Lib.hid (HO3.out.keep hb34 HO3.out.lt)
    have HO4 := Lib.hid (HO4.out.keep hb34 HO4.out.lt)
    have HT := Lib.hid (HT.out.keep hb34)
    have HB := Lib.hid (below_t HB.out hb34)
    have HZ4 : Hid (w.heap.size + 3 ≤ (w3.alloc (.cells #[.slice pw L.length cw] 23)).heap.size) := Nat.le_trans HZ2.out hb34.size
    have c0 := oX4.cell (i := 0) rfl
    have c1 := oX4.cell (i := 1) rfl
    have c2 := oX4.cell (i := 2) rfl
    have c3 := oX4.cell (i := 3) rfl
    have c4 := oX4.cell (i := 4) rfl
    have c5 := oX4.cell (i := 5) rfl
    obtain ⟨B5, hB5⟩ : ∃ B5, w3.heap.size = B5 := ⟨_, rfl⟩
    obtain ⟨W4, hW4⟩ : ∃ W4, w3.alloc (.cells #[.slice pw L.length cw] 23) = W4 := ⟨_, rfl⟩
    have HB5 := Lib.hid hB5
    have HW4 := Lib.hid hW4
    have HOX := Lib.hid oX4
    have HO5 := Lib.hid o5
    have HL := Lib.hid hL
    have HLs := Lib.hid hLs
    have heq := run_eql_seq
    clear hNod hb3 hb4 hb34 o5 oX4 hL hLs hB5 hW4
    go_wp2_with fail
    have hh1 := HNod.out
    have hh2 := HOX.out
    have hh3 := HO3.out
    have hh4 := HO4.out
    have hh5 := HO5.out
    have hh6 := HT.out
    have hh7 := HB.out
    have hh8 := HZ4.out
    clear HNod HOX HO3 HO4 HO5 HT HB HZ4
    rw [HW4.out] at hh1 hh2 hh3 hh4 hh5 hh6 hh7 hh8
    rw [HB5.out] at hh5
    rw [HW4.out, HB5.out]
    have HNod := Lib.hid hh1
    have HOX := Lib.hid hh2
    have HO3 := Lib.hid hh3
    have HO4 := Lib.hid hh4
    have HO5 := Lib.hid hh5
    have HT := Lib.hid hh6
    have HB := Lib.hid hh7
    have HZ4 := Lib.hid hh8
    clear c0 c1 c2 c3 c4 c5 hh1 hh2 hh3 hh4 hh5 hh6 hh7 hh8 HW4 HB5
    refine (Steps_any x.d W4).mono ?_
    rintro e5 w5 ⟨rfl, rfl⟩
    obtain ⟨bs, hbs⟩ : ∃ bs, W4.heap.size = bs := ⟨_, rfl⟩
    obtain ⟨W5, hW5⟩ : ∃ W5, W4.alloc (.cells #[.int .i64 x.d.kind, .int .i64 x.d.fn, .int .i64 x.d.axis, .string x.d.name, .slice x.d.np x.d.nums.length x.d.nc, .slice x.d.kp x.d.n x.d.kc] 25) = W5 := ⟨_, rfl⟩
    have oB : Own W5 bs 25 [.int .i64 x.d.kind, .int .i64 x.d.fn, .int .i64 x.d.axis, .string x.d.name, .slice x.d.np x.d.nums.length x.d.nc, .slice x.d.kp x.d.n x.d.kc] := by rw [← hW5]; exact Own.made _ _ [.int .i64 x.d.kind, .int .i64 x.d.fn, .int .i64 x.d.axis, .string x.d.name, .slice x.d.np x.d.nums.length x.d.nc, .slice x.d.kp x.d.n x.d.kc] _ hbs.symm
    have hb5 : Below W4.heap.size W4 W5 := by rw [← hW5]; exact below_alloc _ _
    have hs5 : W5.heap.size = bs + 1 := by rw [← hW5, ← hbs]; simp
    rw [hW5]
    rw [hbs]
    have HBS := Lib.hid hbs
    obtain ⟨bn, hbn⟩ : ∃ bn, W5.heap.size = bn := ⟨_, rfl⟩
    obtain ⟨W6, hW6⟩ : ∃ W6, W5.alloc (.cells #[.int .i64 0] 3) = W6 := ⟨_, rfl⟩
    have oN : Own W6 bn 3 [.int .i64 0] := by rw [← hW6]; exact Own.made _ _ [_] _ hbn.symm
    have hb6 : Below W5.heap.size W5 W6 := by rw [← hW6]; exact below_alloc _ _
    have hs6 : W6.heap.size = bn + 1 := by rw [← hW6, ← hbn]; simp
    have HOB := Lib.hid (oB.keep hb6 oB.lt)
    have HON := Lib.hid oN
    have HB6 := Lib.hid (hb5.trans (hb6.mono hb5.size))
    have HE : Hid (W4.heap.size = bs ∧ bn = bs + 1 ∧ W6.heap.size = bn + 1) := ⟨hbs, by omega, hs6⟩
    have HBN := Lib.hid hbn
    have HW6 := Lib.hid hW6
    clear hbs hW5 oB hb5 hs5 hbn hW6 oN hb6 hs6
    go_wp2_with fail
    rw [HBN.out, HW6.out]
    clear HBN HW6
    refine wpIn_wide.1 (wpIn_range_steps (n := 4) W4 x HT.out HB6.out bs HOB.out rfl rfl
      (fun pre V => Below W4.heap.size W4 V ∧ Own V bn 3 [.int .i64 (pre.length : Int)] ∧ W6.heap.size ≤ V.heap.size ∧ (pre.length : Int) ≤ st)
      (fun c pre V => c = .exit 0 ∧ Below W4.heap.size W4 V ∧ Own V bn 3 [.int .i64 (pre.length : Int)] ∧ W6.heap.size ≤ V.heap.size ∧ (pre.length : Int) = st + 1) ?hI ?hIx ⟨HB6.out, HON.out, Nat.le_refl _, HST.out.1⟩
      (fun k a' V => ∃ Bk, W6.heap.size ≤ Bk ∧ Own V Bk 25 [.int .i64 k.d.kind, .int .i64 k.d.fn, .int .i64 k.d.axis, .string k.d.name, .slice k.d.np k.d.nums.length k.d.nc, .slice k.d.kp k.d.n k.d.kc] ∧ a' = { tmps := #[.agg #[.int .i64 x.d.kind, .int .i64 x.d.fn, .int .i64 x.d.axis, .string x.d.name, .slice x.d.np x.d.nums.length x.d.nc, .slice x.d.kp x.d.n x.d.kc], .int .u8 st, .pointer (some ⟨w.heap.size, 0, none⟩), .pointer (some ⟨X3, 0, none⟩), .pointer (some ⟨X4, 0, none⟩), .pointer (some ⟨B5, 0, none⟩), .func (.func 35) #[] #[.pointer (some ⟨bs, 0, none⟩)], .pointer (some ⟨bn, 0, none⟩), .pointer (some ⟨Bk, 0, none⟩), undef, undef, undef, .bool true, .bool false, .bool false, .agg #[.int .i64 x.d.kind, .int .i64 x.d.fn, .int .i64 x.d.axis, .string x.d.name, .slice x.d.np x.d.nums.length x.d.nc, .slice x.d.kp x.d.n x.d.kc], .bool true, .bool false, .bool false, undef, .agg #[.int .i64 x.d.kind, .int .i64 x.d.fn, .int .i64 x.d.axis, .string x.d.name, .slice x.d.np x.d.nums.length x.d.nc, .slice x.d.kp x.d.n x.d.kc], .slice pw L.length cw, .agg #[.int .i64 x.d.kind, .int .i64 x.d.fn, .int .i64 x.d.axis, .string x.d.name, .slice x.d.np x.d.nums.length x.d.nc, .slice x.d.kp x.d.n x.d.kc], .func (.func 35) #[] #[.pointer (some ⟨bs, 0, none⟩)], .func (.func 35) #[] #[.pointer (some ⟨bs, 0, none⟩)], .bool false, .func (.func 35) #[] #[.pointer (some ⟨bs, 0, none⟩)], .agg #[.int .i64 k.d.kind, .int .i64 k.d.fn, .int .i64 k.d.axis, .string k.d.name, .slice k.d.np k.d.nums.length k.d.nc, .slice k.d.kp k.d.n k.d.kc], undef, undef, undef, undef, undef, undef, undef, undef, undef, undef, undef, undef, undef, undef, undef, undef, undef, undef, undef, undef, undef, undef, undef, undef, undef, undef, undef, undef, undef, undef, undef, undef, undef, undef, undef, undef, undef, undef, undef, undef, undef, undef, undef, undef, undef, undef, undef, undef, undef, undef, undef, undef, undef], defers := [] }) ?ax ?assign ?body ?done ?stop)
    case hI =>
      rintro s X Y row ⟨h1, h2, h3, h4⟩ hg hr
      have hE := HE.out
      exact ⟨h1.grown hg h1.size (fun k e => by have := (hr k e).1; omega), h2.grown hg (fun e => by have := (hr _ e.symm).1; omega), Nat.le_trans h3 hg.size, h4⟩
    case hIx =>
      rintro c s X Y row ⟨h0, h1, h2, h3, h4⟩ hg hr
      have hE := HE.out
      exact ⟨h0, h1.grown hg h1.size (fun k e => by have := (hr k e).1; omega), h2.grown hg (fun e => by have := (hr _ e.symm).1; omega), Nat.le_trans h3 hg.size, h4⟩
    case ax =>
      rintro k a' V o o' ⟨Bk, hBk, ho, e⟩ hl hc
      refine ⟨Bk, hBk, ho.grown (grownBy_putObj' _ _ _) fun e => ?_, e⟩
      cases e
      obtain ⟨r, h'⟩ := ho
      rw [h'] at hl
      cases hl
      cases hc
    case assign =>
      intro l' pre k V K hI hK
      have HK := Lib.hid hK
      have HI := Lib.hid hI
      clear hK hI
      gi_wp2
      have hI := HI.out
      exact HK.out _ _ (KpS.of (below_alloc _ _) hI.1.size) ⟨below_t hI.1 (below_alloc _ _), hI.2.1.keep (below_alloc _ _) hI.2.1.lt, Nat.le_trans hI.2.2.1 (below_alloc V _).size, hI.2.2.2⟩ ⟨V.heap.size, hI.2.2.1, Own.made V _ [.int .i64 k.d.kind, .int .i64 k.d.fn, .int .i64 k.d.axis, .string k.d.name, .slice k.d.np k.d.nums.length k.d.nc, .slice k.d.kp k.d.n k.d.kc] _ rfl, rfl⟩
    case body =>
      rintro l' pre k a' V rfl ⟨r, hr⟩ ⟨hI1, hI2, hI3, hpst⟩ ⟨Bk, hBk, hoK, rfl⟩ hmap
      obtain ⟨hp0, hxk, hw1, hw2⟩ := len_facts hmap HS.out
      rw [HL.out] at hp0 hxk
      have hp1 : (pre.length : Int) < (L.length : Int) := Int.ofNat_lt.2 hp0
      obtain ⟨g, o, hpw, hg0', hN0', hk0'⟩ := HNod.out.at hxk
      subst hpw
      have hk0 := hk0'.keep hI1
      have hN0 := hN0'.keep hg0' hI1
      have hg0 : g < V.heap.size := Nat.lt_of_lt_of_le hg0' hI1.size
      have oN := hI2
      have oW := HO5.out.keep hI1 HO5.out.lt
      have hord : W4.heap.size ≤ bn ∧ bn < W6.heap.size ∧ W6.heap.size ≤ W6.heap.size := by have := HE.out; exact ⟨by omega, by omega, Nat.le_refl _⟩
      have hst := HST.out
      obtain ⟨hw3, hw4, -, -⟩ := st_facts hst
      have hgeq : decide (L.length ≤ pre.length) = false := decide_eq_false (Nat.not_le.2 hp0)
      clear hmap hr hxk hp0 hN0' hk0' hg0' hBk hst
      gi_wp2
      refine wpIn_round_held (S := (fun z => Below V.heap.size V z)) (by kernel_rfl) (by kernel_rfl) ?_ (fun hHeld => ?_)
      · (try dsimp only); exact (Below.refl _ V).drew
      refine takeH 0 (some 28) (v := ?_) rfl rfl (by kernel_rfl) (by kernel_rfl) (by kernel_rfl) (by rfl) ?_ (by exact hHeld) ?_
      rotate_left
      · intro w hSw; (try dsimp only at hSw); have kn := oN.keep hSw oN.lt; have n0 := kn.cell (i := 0) rfl; have kw := oW.keep hSw oW.lt; have w0 := kw.cell (i := 0) rfl; have kk := hoK.keep hSw hoK.lt; have k0 := kk.cell (i := 0) rfl; have k1 := kk.cell (i := 1) rfl; have k2 := kk.cell (i := 2) rfl; have k3 := kk.cell (i := 3) rfl; have k4 := kk.cell (i := 4) rfl; have k5 := kk.cell (i := 5) rfl; have NN := hN0.keep hg0 hSw; have r0 := NN.c0; have r1 := NN.c1; have r2 := NN.c2; have r3 := NN.c3; have r4 := NN.c4; have r5 := NN.c5; clear kn kw kk NN; go_simp; try (with_reducible rfl)
      try simp only [Act.put, List.setIfInBounds_toArray, List.set_cons_zero, List.set_cons_succ]
      refine takeH 1 (some 29) (v := ?_) rfl rfl (by kernel_rfl) (by kernel_rfl) (by kernel_rfl) (by rfl) ?_ (by exact hHeld) ?_
      rotate_left
      · intro w hSw; (try dsimp only at hSw); have kn := oN.keep hSw oN.lt; have n0 := kn.cell (i := 0) rfl; have kw := oW.keep hSw oW.lt; have w0 := kw.cell (i := 0) rfl; have kk := hoK.keep hSw hoK.lt; have k0 := kk.cell (i := 0) rfl; have k1 := kk.cell (i := 1) rfl; have k2 := kk.cell (i := 2) rfl; have k3 := kk.cell (i := 3) rfl; have k4 := kk.cell (i := 4) rfl; have k5 := kk.cell (i := 5) rfl; have NN := hN0.keep hg0 hSw; have r0 := NN.c0; have r1 := NN.c1; have r2 := NN.c2; have r3 := NN.c3; have r4 := NN.c4; have r5 := NN.c5; clear kn kw kk NN; go_simp; try (with_reducible rfl)
      try simp only [Act.put, List.setIfInBounds_toArray, List.set_cons_zero, List.set_cons_succ]
      refine takeH 2 (some 30) (v := ?_) rfl rfl (by kernel_rfl) (by kernel_rfl) (by kernel_rfl) (by rfl) ?_ (by exact hHeld) ?_
      rotate_left
      · intro w hSw; (try dsimp only at hSw); have kn := oN.keep hSw oN.lt; have n0 := kn.cell (i := 0) rfl; have kw := oW.keep hSw oW.lt; have w0 := kw.cell (i := 0) rfl; have kk := hoK.keep hSw hoK.lt; have k0 := kk.cell (i := 0) rfl; have k1 := kk.cell (i := 1) rfl; have k2 := kk.cell (i := 2) rfl; have k3 := kk.cell (i := 3) rfl; have k4 := kk.cell (i := 4) rfl; have k5 := kk.cell (i := 5) rfl; have NN := hN0.keep hg0 hSw; have r0 := NN.c0; have r1 := NN.c1; have r2 := NN.c2; have r3 := NN.c3; have r4 := NN.c4; have r5 := NN.c5; clear kn kw kk NN; go_simp; try (with_reducible rfl)
      try simp only [Act.put, List.setIfInBounds_toArray, List.set_cons_zero, List.set_cons_succ]
      refine takeH 3 (some 31) (v := ?_) rfl rfl (by kernel_rfl) (by kernel_rfl) (by kernel_rfl) (by rfl) ?_ (by exact hHeld) ?_
      rotate_left
      · intro w hSw; (try dsimp only at hSw); have kn := oN.keep hSw oN.lt; have n0 := kn.cell (i := 0) rfl; have kw := oW.keep hSw oW.lt; have w0 := kw.cell (i := 0) rfl; have kk := hoK.keep hSw hoK.lt; have k0 := kk.cell (i := 0) rfl; have k1 := kk.cell (i := 1) rfl; have k2 := kk.cell (i := 2) rfl; have k3 := kk.cell (i := 3) rfl; have k4 := kk.cell (i := 4) rfl; have k5 := kk.cell (i := 5) rfl; have NN := hN0.keep hg0 hSw; have r0 := NN.c0; have r1 := NN.c1; have r2 := NN.c2; have r3 := NN.c3; have r4 := NN.c4; have r5 := NN.c5; clear kn kw kk NN; go_simp; try (with_reducible rfl)
      try simp only [Act.put, List.setIfInBounds_toArray, List.set_cons_zero, List.set_cons_succ]
      refine takeH 4 (some 32) (v := ?_) rfl rfl (by kernel_rfl) (by kernel_rfl) (by kernel_rfl) (by rfl) ?_ (by exact hHeld) ?_
      rotate_left
      · intro w hSw; (try dsimp only at hSw); have kn := oN.keep hSw oN.lt; have n0 := kn.cell (i := 0) rfl; have kw := oW.keep hSw oW.lt; have w0 := kw.cell (i := 0) rfl; have kk := hoK.keep hSw hoK.lt; have k0 := kk.cell (i := 0) rfl; have k1 := kk.cell (i := 1) rfl; have k2 := kk.cell (i := 2) rfl; have k3 := kk.cell (i := 3) rfl; have k4 := kk.cell (i := 4) rfl; have k5 := kk.cell (i := 5) rfl; have NN := hN0.keep hg0 hSw; have r0 := NN.c0; have r1 := NN.c1; have r2 := NN.c2; have r3 := NN.c3; have r4 := NN.c4; have r5 := NN.c5; clear kn kw kk NN; go_simp; try (with_reducible rfl)
      try simp only [Act.put, List.setIfInBounds_toArray, List.set_cons_zero, List.set_cons_succ]
      refine takeH 5 (some 33) (v := ?_) rfl rfl (by kernel_rfl) (by kernel_rfl) (by kernel_rfl) (by rfl) ?_ (by exact hHeld) ?_
      rotate_left
      · intro w hSw; (try dsimp only at hSw); have kn := oN.keep hSw oN.lt; have n0 := kn.cell (i := 0) rfl; have kw := oW.keep hSw oW.lt; have w0 := kw.cell (i := 0) rfl; have kk := hoK.keep hSw hoK.lt; have k0 := kk.cell (i := 0) rfl; have k1 := kk.cell (i := 1) rfl; have k2 := kk.cell (i := 2) rfl; have k3 := kk.cell (i := 3) rfl; have k4 := kk.cell (i := 4) rfl; have k5 := kk.cell (i := 5) rfl; have NN := hN0.keep hg0 hSw; have r0 := NN.c0; have r1 := NN.c1; have r2 := NN.c2; have r3 := NN.c3; have r4 := NN.c4; have r5 := NN.c5; clear kn kw kk NN; go_simp; try (with_reducible rfl)
      try simp only [Act.put, List.setIfInBounds_toArray, List.set_cons_zero, List.set_cons_succ]
      refine takeH 6 (some 34) (v := ?_) rfl rfl (by kernel_rfl) (by kernel_rfl) (by kernel_rfl) (by rfl) ?_ (by exact hHeld) ?_
      rotate_left
      · intro w hSw; (try dsimp only at hSw); have kn := oN.keep hSw oN.lt; have n0 := kn.cell (i := 0) rfl; have kw := oW.keep hSw oW.lt; have w0 := kw.cell (i := 0) rfl; have kk := hoK.keep hSw hoK.lt; have k0 := kk.cell (i := 0) rfl; have k1 := kk.cell (i := 1) rfl; have k2 := kk.cell (i := 2) rfl; have k3 := kk.cell (i := 3) rfl; have k4 := kk.cell (i := 4) rfl; have k5 := kk.cell (i := 5) rfl; have NN := hN0.keep hg0 hSw; have r0 := NN.c0; have r1 := NN.c1; have r2 := NN.c2; have r3 := NN.c3; have r4 := NN.c4; have r5 := NN.c5; clear kn kw kk NN; go_simp; try (with_reducible rfl)
      try simp only [Act.put, List.setIfInBounds_toArray, List.set_cons_zero, List.set_cons_succ]
      refine takeH 7 (some 35) (v := ?_) rfl rfl (by kernel_rfl) (by kernel_rfl) (by kernel_rfl) (by rfl) ?_ (by exact hHeld) ?_
      rotate_left
      · intro w hSw; (try dsimp only at hSw); have kn := oN.keep hSw oN.lt; have n0 := kn.cell (i := 0) rfl; have kw := oW.keep hSw oW.lt; have w0 := kw.cell (i := 0) rfl; have kk := hoK.keep hSw hoK.lt; have k0 := kk.cell (i := 0) rfl; have k1 := kk.cell (i := 1) rfl; have k2 := kk.cell (i := 2) rfl; have k3 := kk.cell (i := 3) rfl; have k4 := kk.cell (i := 4) rfl; have k5 := kk.cell (i := 5) rfl; have NN := hN0.keep hg0 hSw; have r0 := NN.c0; have r1 := NN.c1; have r2 := NN.c2; have r3 := NN.c3; have r4 := NN.c4; have r5 := NN.c5; clear kn kw kk NN; go_simp; try (with_reducible rfl)
      try simp only [Act.put, List.setIfInBounds_toArray, List.set_cons_zero, List.set_cons_succ]
      refine takeH 8 (some 36) (v := ?_) rfl rfl (by kernel_rfl) (by kernel_rfl) (by kernel_rfl) (by rfl) ?_ (by exact hHeld) ?_
      rotate_left
      · intro w hSw; (try dsimp only at hSw); have kn := oN.keep hSw oN.lt; have n0 := kn.cell (i := 0) rfl; have kw := oW.keep hSw oW.lt; have w0 := kw.cell (i := 0) rfl; have kk := hoK.keep hSw hoK.lt; have k0 := kk.cell (i := 0) rfl; have k1 := kk.cell (i := 1) rfl; have k2 := kk.cell (i := 2) rfl; have k3 := kk.cell (i := 3) rfl; have k4 := kk.cell (i := 4) rfl; have k5 := kk.cell (i := 5) rfl; have NN := hN0.keep hg0 hSw; have r0 := NN.c0; have r1 := NN.c1; have r2 := NN.c2; have r3 := NN.c3; have r4 := NN.c4; have r5 := NN.c5; clear kn kw kk NN; go_simp; try (with_reducible rfl)
      try simp only [Act.put, List.setIfInBounds_toArray, List.set_cons_zero, List.set_cons_succ]
      refine takeH 9 (some 37) (v := ?_) rfl rfl (by kernel_rfl) (by kernel_rfl) (by kernel_rfl) (by rfl) ?_ (by exact hHeld) ?_
      rotate_left
      · intro w hSw; (try dsimp only at hSw); have kn := oN.keep hSw oN.lt; have n0 := kn.cell (i := 0) rfl; have kw := oW.keep hSw oW.lt; have w0 := kw.cell (i := 0) rfl; have kk := hoK.keep hSw hoK.lt; have k0 := kk.cell (i := 0) rfl; have k1 := kk.cell (i := 1) rfl; have k2 := kk.cell (i := 2) rfl; have k3 := kk.cell (i := 3) rfl; have k4 := kk.cell (i := 4) rfl; have k5 := kk.cell (i := 5) rfl; have NN := hN0.keep hg0 hSw; have r0 := NN.c0; have r1 := NN.c1; have r2 := NN.c2; have r3 := NN.c3; have r4 := NN.c4; have r5 := NN.c5; clear kn kw kk NN; go_simp; try (with_reducible rfl)
      try simp only [Act.put, List.setIfInBounds_toArray, List.set_cons_zero, List.set_cons_succ]
      refine wpAnyH_ready (rs := [10]) (by kernel_rfl) (by simp) ?_
      refine stepH 10 rfl (by rfl) (fun K hK => ?_) ?_
      · go_simp
        ((with_reducible refine (RSame_any k k _ true (sameT_refl k) ?_ ?_).mono ?_); (exact hk0.keep hHeld); (exact hk0.keep hHeld); rintro e10 w10 ⟨rfl, q10⟩)
        refine hK.out _ _ ?_ (fun hNew => ?_)
        · (try dsimp only); exact below_t hHeld q10
        clear hK K hHeld
        have hHeld := hNew
        clear hNew
        try dsimp only at hHeld
        try simp only [Act.put, List.setIfInBounds_toArray, List.set_cons_zero, List.set_cons_succ]
        refine takeH 11 (some 39) (v := ?_) rfl rfl (by kernel_rfl) (by kernel_rfl) (by kernel_rfl) (by rfl) ?_ (by exact hHeld) ?_
        rotate_left
        · intro w hSw; (try dsimp only at hSw); have kn := oN.keep hSw oN.lt; have n0 := kn.cell (i := 0) rfl; have kw := oW.keep hSw oW.lt; have w0 := kw.cell (i := 0) rfl; have kk := hoK.keep hSw hoK.lt; have k0 := kk.cell (i := 0) rfl; have k1 := kk.cell (i := 1) rfl; have k2 := kk.cell (i := 2) rfl; have k3 := kk.cell (i := 3) rfl; have k4 := kk.cell (i := 4) rfl; have k5 := kk.cell (i := 5) rfl; have NN := hN0.keep hg0 hSw; have r0 := NN.c0; have r1 := NN.c1; have r2 := NN.c2; have r3 := NN.c3; have r4 := NN.c4; have r5 := NN.c5; clear kn kw kk NN; go_simp; try (with_reducible rfl)
        try simp only [Act.put, List.setIfInBounds_toArray, List.set_cons_zero, List.set_cons_succ]
        refine takeH 12 (some 40) (v := ?_) rfl rfl (by kernel_rfl) (by kernel_rfl) (by kernel_rfl) (by rfl) ?_ (by exact hHeld) ?_
        rotate_left
        · intro w hSw; (try dsimp only at hSw); have kn := oN.keep hSw oN.lt; have n0 := kn.cell (i := 0) rfl; have kw := oW.keep hSw oW.lt; have w0 := kw.cell (i := 0) rfl; have kk := hoK.keep hSw hoK.lt; have k0 := kk.cell (i := 0) rfl; have k1 := kk.cell (i := 1) rfl; have k2 := kk.cell (i := 2) rfl; have k3 := kk.cell (i := 3) rfl; have k4 := kk.cell (i := 4) rfl; have k5 := kk.cell (i := 5) rfl; have NN := hN0.keep hg0 hSw; have r0 := NN.c0; have r1 := NN.c1; have r2 := NN.c2; have r3 := NN.c3; have r4 := NN.c4; have r5 := NN.c5; clear kn kw kk NN; go_simp; try (with_reducible rfl)
        try simp only [Act.put, List.setIfInBounds_toArray, List.set_cons_zero, List.set_cons_succ]
        refine wpAnyH_done (by kernel_rfl) ?_ _
        refine NoPanic.normal ?_
        refine OnlyNormal.normal ?_
        have hq := hHeld
        have HE := Lib.hid (steps_round hI1 hI2 hI3 HO3.out hq hord)
        have hn9 := oN.keep hq oN.lt
        have m9 := hn9.cell (i := 0) rfl
        have f9 := hn9.frozen 0
        have m1 := HE.out.2.2.2.cell (i := 0) rfl
        have m10 := HE.out.2.2.1.1.cell (i := 0) rfl
        clear hHeld q10 hq hn9 hI1 hI2 hI3 oN oW hoK hN0 hk0
        by_cases kk : st < (pre.length : Int) + 1
        · have dk : decide (st < (pre.length : Int) + 1) = true := decide_eq_true kk
          gi_wp2
          exact ⟨HE.out.1, rfl, HE.out.2.1, (by rw [List.length_append]; exact HE.out.2.2.1.1), HE.out.2.2.1.2, step_stop hpst kk⟩
        · have dk : decide (st < (pre.length : Int) + 1) = false := decide_eq_false kk
          gi_wp2
          exact ⟨HE.out.1, HE.out.2.1, (by rw [List.length_append]; exact HE.out.2.2.1.1), HE.out.2.2.1.2, step_go (Int.not_lt.2 kk)⟩
      exact AllReadyH.nil
    case done =>
      rintro D V hD ⟨hI1, hI2, hI3, hpst⟩ hK
      rw [HL.out] at hI2 hpst
      have HON := Lib.hid hI2
      have HMIN : Hid ((L.length : Int) ≤ st + 1) := by simp only [Hid]; omega
      have hE := HE.out
      have oX := HOX.out.keep hI1 HOX.out.lt
      have HOX := Lib.hid oX
      have HO3 := Lib.hid (HO3.out.keep hI1 HO3.out.lt)
      have HO4 := Lib.hid (HO4.out.keep hI1 HO4.out.lt)
      have HO5 := Lib.hid (HO5.out.keep hI1 HO5.out.lt)
      have HTV := Lib.hid (HT.out.keep hI1)
      have HLW := Lib.hid (below_t HB.out hI1)
      have HK := Lib.hid hK
      have HXD : Hid ((w.heap.size ≤ X4 ∧ w.heap.size ≤ D) ∧ X4 ≠ D) := by
        have h1 := HX4.out
        have h2 := HZ4.out
        exact ⟨⟨by omega, by omega⟩, by omega⟩
      clear hE hD hI3 hpst
      have c0 := oX.cell (i := 0) rfl
      have c1 := oX.cell (i := 1) rfl
      have c2 := oX.cell (i := 2) rfl
      have c3 := oX.cell (i := 3) rfl
      have c4 := oX.cell (i := 4) rfl
      have c5 := oX.cell (i := 5) rfl
      clear hI1 hI2 hK
      go_wp2_with fail
      refine (Names_any x HS6.out V HTV.out).mono ?_
      rintro e14 V14 ⟨p1, c1', rfl, hT1, -, hb14⟩
      clear c0 c1 c2 c3 c4 c5
      have oX := HOX.out.keep hb14 HOX.out.lt
      have HTV := Lib.hid (HTV.out.keep hb14)
      have c0 := oX.cell (i := 0) rfl
      have c1 := oX.cell (i := 1) rfl
      have c2 := oX.cell (i := 2) rfl
      have c3 := oX.cell (i := 3) rfl
      have c4 := oX.cell (i := 4) rfl
      have c5 := oX.cell (i := 5) rfl
      have HB14 := Lib.hid hb14
      clear hb14 oX
      go_wp2_with fail
      refine (RNames_any x HS6.out V14 HTV.out).mono ?_
      rintro e15 V15 ⟨p2, c2', rfl, hT2, hb15⟩
      clear c0 c1 c2 c3 c4 c5
      have hT1 := hT1.keep hb15
      have hbV := below_t HB14.out hb15
      have cN := (HON.out.keep hbV HON.out.lt).cell (i := 0) rfl
      have c5 := (HO5.out.keep hbV HO5.out.lt).cell (i := 0) rfl
      have c3 := (HO3.out.keep hbV HO3.out.lt).cell (i := 0) rfl
      have o4 := HO4.out.keep hbV HO4.out.lt
      have hK15 := (hbV.block D (Array.getElem?_eq_some_iff.1 HK.out).1).trans HK.out
      have HLow := Lib.hid (below_t HLW.out hbV)
      obtain ⟨NL, hNL⟩ : ∃ NL, namesL (stepsT x) = NL := ⟨_, rfl⟩
      rw [hNL] at hT1 hT2 ⊢
      have hns := hT1.small
      have HO4 := Lib.hid o4
      have HK := Lib.hid hK15
      obtain ⟨hw1, hw2, hw3, hw4⟩ := st_facts HST.out
      clear hNL hbV hb15 o4 hK15
      have hmin : ¬ st + 1 < (L.length : Int) := Int.not_lt.2 HMIN.out
      go_wp2_with fail
      clear cN c5 c3 hmin hw1 hw2 hw3 hw4
      go_loopw [11] (fun i wr => ∃ k m : Nat, k ≤ NL.length ∧ i = .int .i64 k ∧ wr = V15.drewN m) (fun i _ => NL.length - (intOf i).toNat)
      case atStart => exact ⟨0, 0, Nat.zero_le _, rfl, rfl⟩
      case round =>
        obtain ⟨k, m, hk, rfl, rfl⟩ := hrel
        by_cases hlt : k < NL.length
        · obtain ⟨g1, o1, rfl, -, hc⟩ := hT1.at hlt
          obtain ⟨g2, o2, rfl, -, hc'⟩ := hT2.at hlt
          have hi1 : (k : Int) < (NL.length : Int) := by omega
          have em : ((tnth NL k).toList != (tnth NL k).toList) = false := by simp
          go_wp2
          go_quiet (fail)
          go_wp2
          go_roundw
          case rel => exact ⟨k + 1, _, by omega, by go_num, rfl⟩
          case measure => simp [intOf]; omega
        · have hi1 : ¬ (k : Int) < (NL.length : Int) := by omega
          have hbd := below_drewN V15.heap.size V15 m
          have HFin := Lib.hid (steps_end HLow.out HO4.out HK.out hbd HXD.out.1 HXD.out.2)
          generalize V15.drewN m = V16 at *
          have o4 := HFin.out.1
          have k4 := o4.cell (i := 0) rfl
          have f4 := o4.frozen 0
          clear hbd hT1 hT2 o4
          go_wp2_with fail
          refine ⟨by simp, .inl ⟨_, _, rfl, run_takeDeferred HFin.out.2.1, ?_⟩⟩
          have ow5 := HFin.out.2.2.1
          exact ⟨_, (by simp [results, Try.results5, go_sem, ow5] : (results Try.f5 _).run Try.prog _ = .ok (.bool true) _), rfl, HFin.out.2.2.2⟩
    case stop =>
      rintro D c pre V hD hne hpre ⟨rfl, hI1, hI2, hI3, hpst⟩ hK
      rw [HL.out] at hpre
      have hpl : pre.length ≤ L.length := by have e := congrArg List.length hpre; rw [List.length_take] at e; omega
      have hE := HE.out
      have oX := HOX.out.keep hI1 HOX.out.lt
      have HOX := Lib.hid oX
      have HO3 := Lib.hid (HO3.out.keep hI1 HO3.out.lt)
      have HO4 := Lib.hid (HO4.out.keep hI1 HO4.out.lt)
      have HO5 := Lib.hid (HO5.out.keep hI1 HO5.out.lt)
      have HTV := Lib.hid (HT.out.keep hI1)
      have HLW := Lib.hid (below_t HB.out hI1)
      have HK := Lib.hid hK
      have HXD : Hid ((w.heap.size ≤ X4 ∧ w.heap.size ≤ D) ∧ X4 ≠ D) := by
        have h1 := HX4.out
        have h2 := HZ4.out
        exact ⟨⟨by omega, by omega⟩, by omega⟩
      rw [hpst] at hI2
      clear hE hD hI3 hne hpre
      refine wpIn_wide.2 ?_
      by_cases hm : st + 1 < (L.length : Int)
      · have HMIN := Lib.hid hm
        have HON := Lib.hid hI2
        clear hm hpst hpl
        have c0 := oX.cell (i := 0) rfl
        have c1 := oX.cell (i := 1) rfl
        have c2 := oX.cell (i := 2) rfl
        have c3 := oX.cell (i := 3) rfl
        have c4 := oX.cell (i := 4) rfl
        have c5 := oX.cell (i := 5) rfl
        clear hI1 hI2 hK
        go_wp2_with fail
        refine (Names_any x HS6.out V HTV.out).mono ?_
        rintro e14 V14 ⟨p1, c1', rfl, hT1, -, hb14⟩
        clear c0 c1 c2 c3 c4 c5
        have oX := HOX.out.keep hb14 HOX.out.lt
        have HTV := Lib.hid (HTV.out.keep hb14)
        have c0 := oX.cell (i := 0) rfl
        have c1 := oX.cell (i := 1) rfl
        have c2 := oX.cell (i := 2) rfl
        have c3 := oX.cell (i := 3) rfl
        have c4 := oX.cell (i := 4) rfl
        have c5 := oX.cell (i := 5) rfl
        have HB14 := Lib.hid hb14
        clear hb14 oX
        go_wp2_with fail
        refine (RNames_any x HS6.out V14 HTV.out).mono ?_
        rintro e15 V15 ⟨p2, c2', rfl, hT2, hb15⟩
        clear c0 c1 c2 c3 c4 c5
        have hT1 := hT1.keep hb15
        have hbV := below_t HB14.out hb15
        have cN := (HON.out.keep hbV HON.out.lt).cell (i := 0) rfl
        have c5 := (HO5.out.keep hbV HO5.out.lt).cell (i := 0) rfl
        have c3 := (HO3.out.keep hbV HO3.out.lt).cell (i := 0) rfl
        have o4 := HO4.out.keep hbV HO4.out.lt
        have hK15 := (hbV.block D (Array.getElem?_eq_some_iff.1 HK.out).1).trans HK.out
        have HLow := Lib.hid (below_t HLW.out hbV)
        obtain ⟨NL, hNL⟩ : ∃ NL, namesL (stepsT x) = NL := ⟨_, rfl⟩
        rw [hNL] at hT1 hT2 ⊢
        have hns := hT1.small
        have HO4 := Lib.hid o4
        have HK := Lib.hid hK15
        obtain ⟨hw1, hw2, hw3, hw4⟩ := st_facts HST.out
        clear hNL hbV hb15 o4 hK15
        have hmin : st + 1 < (L.length : Int) := HMIN.out
        go_wp2_with fail
        clear cN c5 c3 hmin hw1 hw2 hw3 hw4
        go_loopw [11] (fun i wr => ∃ k m : Nat, k ≤ NL.length ∧ i = .int .i64 k ∧ wr = V15.drewN m) (fun i _ => NL.length - (intOf i).toNat)
        case atStart => exact ⟨0, 0, Nat.zero_le _, rfl, rfl⟩
        case round =>
          obtain ⟨k, m, hk, rfl, rfl⟩ := hrel
          by_cases hlt : k < NL.length
          · obtain ⟨g1, o1, rfl, -, hc⟩ := hT1.at hlt
            obtain ⟨g2, o2, rfl, -, hc'⟩ := hT2.at hlt
            have hi1 : (k : Int) < (NL.length : Int) := by omega
            have em : ((tnth NL k).toList != (tnth NL k).toList) = false := by simp
            go_wp2
            go_quiet (fail)
            go_wp2
            go_roundw
            case rel => exact ⟨k + 1, _, by omega, by go_num, rfl⟩
            case measure => simp [intOf]; omega
          · have hi1 : ¬ (k : Int) < (NL.length : Int) := by omega
            have hbd := below_drewN V15.heap.size V15 m
            have HFin := Lib.hid (steps_end HLow.out HO4.out HK.out hbd HXD.out.1 HXD.out.2)
            generalize V15.drewN m = V16 at *
            have o4 := HFin.out.1
            have k4 := o4.cell (i := 0) rfl
            have f4 := o4.frozen 0
            clear hbd hT1 hT2 o4
            go_wp2_with fail
            refine ⟨by simp, .inl ⟨_, _, rfl, run_takeDeferred HFin.out.2.1, ?_⟩⟩
            have ow5 := HFin.out.2.2.1
            exact ⟨_, (by simp [results, Try.results5, go_sem, ow5] : (results Try.f5 _).run Try.prog _ = .ok (.bool true) _), rfl, HFin.out.2.2.2⟩
      · have HMIN := Lib.hid (Int.not_lt.1 hm)
        have hnl : st + 1 = (L.length : Int) := by omega
        rw [hnl] at hI2
        have HON := Lib.hid hI2
        clear hm hpst hpl hnl
        have c0 := oX.cell (i := 0) rfl
        have c1 := oX.cell (i := 1) rfl
        have c2 := oX.cell (i := 2) rfl
        have c3 := oX.cell (i := 3) rfl
        have c4 := oX.cell (i := 4) rfl
        have c5 := oX.cell (i := 5) rfl
        clear hI1 hI2 hK
        go_wp2_with fail
        refine (Names_any x HS6.out V HTV.out).mono ?_
        rintro e14 V14 ⟨p1, c1', rfl, hT1, -, hb14⟩
        clear c0 c1 c2 c3 c4 c5
        have oX := HOX.out.keep hb14 HOX.out.lt
        have HTV := Lib.hid (HTV.out.keep hb14)
        have c0 := oX.cell (i := 0) rfl
        have c1 := oX.cell (i := 1) rfl
        have c2 := oX.cell (i := 2) rfl
        have c3 := oX.cell (i := 3) rfl
        have c4 := oX.cell (i := 4) rfl
        have c5 := oX.cell (i := 5) rfl
        have HB14 := Lib.hid hb14
        clear hb14 oX
        go_wp2_with fail
        refine (RNames_any x HS6.out V14 HTV.out).mono ?_
        rintro e15 V15 ⟨p2, c2', rfl, hT2, hb15⟩
        clear c0 c1 c2 c3 c4 c5
        have hT1 := hT1.keep hb15
        have hbV := below_t HB14.out hb15
        have cN := (HON.out.keep hbV HON.out.lt).cell (i := 0) rfl
        have c5 := (HO5.out.keep hbV HO5.out.lt).cell (i := 0) rfl
        have c3 := (HO3.out.keep hbV HO3.out.lt).cell (i := 0) rfl
        have o4 := HO4.out.keep hbV HO4.out.lt
        have hK15 := (hbV.block D (Array.getElem?_eq_some_iff.1 HK.out).1).trans HK.out
        have HLow := Lib.hid (below_t HLW.out hbV)
        obtain ⟨NL, hNL⟩ : ∃ NL, namesL (stepsT x) = NL := ⟨_, rfl⟩
        rw [hNL] at hT1 hT2 ⊢
        have hns := hT1.small
        have HO4 := Lib.hid o4
        have HK := Lib.hid hK15
        obtain ⟨hw1, hw2, hw3, hw4⟩ := st_facts HST.out
        clear hNL hbV hb15 o4 hK15
        have hmin : ¬ st + 1 < (L.length : Int) := Int.not_lt.2 HMIN.out
        go_wp2_with fail
        clear cN c5 c3 hmin hw1 hw2 hw3 hw4
        go_loopw [11] (fun i wr => ∃ k m : Nat, k ≤ NL.length ∧ i = .int .i64 k ∧ wr = V15.drewN m) (fun i _ => NL.length - (intOf i).toNat)
        case atStart => exact ⟨0, 0, Nat.zero_le _, rfl, rfl⟩
        case round =>
          obtain ⟨k, m, hk, rfl, rfl⟩ := hrel
          by_cases hlt : k < NL.length
          · obtain ⟨g1, o1, rfl, -, hc⟩ := hT1.at hlt
            obtain ⟨g2, o2, rfl, -, hc'⟩ := hT2.at hlt
            have hi1 : (k : Int) < (NL.length : Int) := by omega
            have em : ((tnth NL k).toList != (tnth NL k).toList) = false := by simp
            go_wp2
            go_quiet (fail)
            go_wp2
            go_roundw
            case rel => exact ⟨k + 1, _, by omega, by go_num, rfl⟩
            case measure => simp [intOf]; omega
          · have hi1 : ¬ (k : Int) < (NL.length : Int) := by omega
            have hbd := below_drewN V15.heap.size V15 m
            have HFin := Lib.hid (steps_end HLow.out HO4.out HK.out hbd HXD.out.1 HXD.out.2)
            generalize V15.drewN m = V16 at *
            have o4 := HFin.out.1
            have k4 := o4.cell (i := 0) rfl
            have f4 := o4.frozen 0
            clear hbd hT1 hT2 o4
            go_wp2_with fail
            refine ⟨by simp, .inl ⟨_, _, rfl, run_takeDeferred HFin.out.2.1, ?_⟩⟩
            have ow5 := HFin.out.2.2.1
            exact ⟨_, (by simp [results, Try.results5, go_sem, ow5] : (results Try.f5 _).run Try.prog _ = .ok (.bool true) _), rfl, HFin.out.2.2.2⟩
end Go.Proofs.Ytjehgcmcphgofaa
