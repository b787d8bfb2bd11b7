/- TreeCounts, walked. No condition. -/
import Derived.Test.YtjehgcmcphgofaaTr35
namespace Go.Proofs.Ytjehgcmcphgofaa
open Go.RowKit Go.Shelf
set_option linter.unusedVariables false
set_option linter.unusedSimpArgs false
attribute [local go_sem] Oper.semAt_some

/-- what is held between two rounds -/
structure CntI (w : World) (x : TV) (bn bl N : Nat) (pre : List TV) (V : World) : Prop where
  low : Below w.heap.size w V
  box : Own V w.heap.size 25 [.int .i64 x.d.kind, .int .i64 x.d.fn, .int .i64 x.d.axis, .string x.d.name, .slice x.d.np x.d.nums.length x.d.nc, .slice x.d.kp x.d.n x.d.kc]
  n : Own V bn 3 [.int .i64 (pre.length : Int)]
  last : ∃ r, Own V bl 4 [.bool r] ∧ ∀ p y, pre = p ++ [y] → sameT y x = r
  sz : N ≤ V.heap.size
  ord : w.heap.size < bn ∧ bn < bl ∧ bl < N
theorem CntI.abides {w : World} {x : TV} {bn bl N : Nat} : AbidesT N (CntI w x bn bl N) := fun s X Y row h hg hr => by
  have ho := h.ord
  have hne : ∀ k, k < N → some k ≠ row := fun k hk e => by have := (hr k e.symm).1; omega
  obtain ⟨r, hl, hp⟩ := h.last
  exact ⟨h.low.grown hg h.low.size fun k e => by have := (hr k e).1; omega, h.box.grown hg (hne _ (by omega)), h.n.grown hg (hne _ (by omega)), ⟨r, hl.grown hg (hne _ (by omega)), hp⟩, Nat.le_trans h.sz hg.size, ho⟩
theorem counts_boxes (W : World) : ∃ V bn bl, bn = W.heap.size ∧ bl = bn + 1 ∧ (W.alloc (.cells #[.int .i64 0] 3)).alloc (.cells #[.bool false] 4) = V ∧ Own V bn 3 [.int .i64 0] ∧ Own V bl 4 [.bool false] ∧ Below W.heap.size W V ∧ V.heap.size = bl + 1 :=
  ⟨_, _, _, rfl, rfl, rfl, (Own.made W _ [.int .i64 0] _ rfl).keep (below_alloc _ _) (by simp), Own.made _ _ [.bool false] _ (by simp), below_t (below_alloc _ _) (below_alloc _ _), by simp⟩

theorem cnt_facts {x : TV} (h : sizeT x ≤ 300) : (depthT x : Int) ≤ (sizeT x : Int) ∧ wrap64 ((sizeT x : Int) + 1) = sizeT x + 1 ∧ IntKind.i64.wrap ((sizeT x : Int) + 1) = sizeT x + 1 ∧ wrap64 ((depthT x : Int) + 1) = depthT x + 1 ∧ IntKind.i64.wrap ((depthT x : Int) + 1) = depthT x + 1 := by
  have := depth_le x
  exact ⟨by omega, wrap64_id (by omega) (by omega), wrapK_id (by omega) (by omega), wrap64_id (by omega) (by omega), wrapK_id (by omega) (by omega)⟩
theorem cnt_round {n : Nat} (h : n ≤ 300) : wrap64 ((n : Int) + 1) = n + 1 ∧ IntKind.i64.wrap ((n : Int) + 1) = n + 1 := ⟨wrap64_id (by omega) (by omega), wrapK_id (by omega) (by omega)⟩
theorem cnt_len {pre : List TV} {k x : TV} (hmap : pre ++ [k] = (stepsT x).take (pre.length + 1)) (h2 : sizeT x ≤ 300) : pre.length ≤ 300 := by
  have h1 := congrArg List.length hmap
  rw [← stepsT_len] at h2
  simp at h1
  omega
theorem stepsT_last (t : TV) : ∃ p, stepsT t = p ++ [t] := by
  cases t with
  | nil => exact ⟨[], rfl⟩
  | mk d kids => exact ⟨_, stepsT_mk d kids⟩
/-- the row and the box of a function around x -/
theorem rav_boxes (V : World) (x : TV) (hx : TreeIn V x) : ∃ Z g b, g = V.heap.size ∧ b = g + 1 ∧ (V.alloc (.cells #[.int .i64 x.d.kind, .int .i64 x.d.fn, .int .i64 x.d.axis, .string x.d.name, .slice x.d.np x.d.nums.length x.d.nc, .slice x.d.kp x.d.n x.d.kc] 25)).alloc (.cells #[.int .i64 3, .int .i64 6, .int .i64 (-1), .string ⟨#[]⟩, .slice none 0 0, .slice (some ⟨g, 0, none⟩) 1 1] 25) = Z ∧
    Own Z b 25 [.int .i64 3, .int .i64 6, .int .i64 (-1), .string ⟨#[]⟩, .slice none 0 0, .slice (some ⟨g, 0, none⟩) 1 1] ∧ TreeIn Z (ravT g x) ∧ Below V.heap.size V Z := by
  have hb : Below V.heap.size V ((V.alloc (.cells #[.int .i64 x.d.kind, .int .i64 x.d.fn, .int .i64 x.d.axis, .string x.d.name, .slice x.d.np x.d.nums.length x.d.nc, .slice x.d.kp x.d.n x.d.kc] 25)).alloc (.cells #[.int .i64 3, .int .i64 6, .int .i64 (-1), .string ⟨#[]⟩, .slice none 0 0, .slice (some ⟨V.heap.size, 0, none⟩) 1 1] 25)) := below_t (below_alloc _ _) (below_alloc _ _)
  refine ⟨_, _, _, rfl, rfl, rfl, Own.made _ _ [.int .i64 3, .int .i64 6, .int .i64 (-1), .string ⟨#[]⟩, .slice none 0 0, .slice (some ⟨V.heap.size, 0, none⟩) 1 1] _ (by simp), ravT_in (hx.keep hb) ?_, hb⟩
  exact (Own.made V _ (cellsT x.d) _ rfl).keep (below_alloc _ _) (by simp)

set_option maxRecDepth 100000 in
set_option maxHeartbeats 4000000 in
theorem TreeCounts_law (x : TV) (w : World) (h : TreeIn w x) (hN : NamesIn x) (hM : NumsIn x) :
    Calls Try.prog 7 #[.agg #[.int .i64 x.d.kind, .int .i64 x.d.fn, .int .i64 x.d.axis, .string x.d.name, .slice x.d.np x.d.nums.length x.d.nc, .slice x.d.kp x.d.n x.d.kc]] w fun e w' => e = .returned (.bool true) ∧ Below w.heap.size w w' := by
  have hba := below_alloc w (.cells #[.int .i64 x.d.kind, .int .i64 x.d.fn, .int .i64 x.d.axis, .string x.d.name, .slice x.d.np x.d.nums.length x.d.nc, .slice x.d.kp x.d.n x.d.kc] 25)
  have A := Own.made w _ [.int .i64 x.d.kind, .int .i64 x.d.fn, .int .i64 x.d.axis, .string x.d.name, .slice x.d.np x.d.nums.length x.d.nc, .slice x.d.kp x.d.n x.d.kc] 25 rfl
  obtain ⟨W, hW⟩ : ∃ W, w.alloc (.cells #[.int .i64 x.d.kind, .int .i64 x.d.fn, .int .i64 x.d.axis, .string x.d.name, .slice x.d.np x.d.nums.length x.d.nc, .slice x.d.kp x.d.n x.d.kc] 25) = W := ⟨_, rfl⟩
  have A : Own W w.heap.size 25 [.int .i64 x.d.kind, .int .i64 x.d.fn, .int .i64 x.d.axis, .string x.d.name, .slice x.d.np x.d.nums.length x.d.nc, .slice x.d.kp x.d.n x.d.kc] := hW ▸ A
  rw [hW] at hba
  obtain ⟨f, hf⟩ : ∃ f, (fewT x 300 && rightT x) = f := ⟨_, rfl⟩
  have HF := Lib.hid hf
  have HN := Lib.hid hN
  have HT0 := Lib.hid h
  have HT := Lib.hid (h.keep hba)
  have HA := Lib.hid A
  have HB := Lib.hid hba
  have HW := Lib.hid hW
  clear hW hba A hf hN hM h
  refine (callsIn_wide (n := 4)).1 ?_
  refine callsIn_of_wp_marks Try.func7 rfl trivial ?_ rfl
  simp only [Try.ntmps7, List.size_toArray, List.length_cons, List.length_nil, Nat.reduceAdd, Nat.reduceSub, Array.replicate_succ, Array.replicate_zero, List.push_toArray, List.append_toArray, List.nil_append, List.cons_append]
  refine wpIn_wide.2 ?_
  go_wp2_with fail
  rw [HW.out]
  clear HW
  refine (awake08 W).mono ?_
  rintro e1 w1 ⟨rfl, hb1⟩
  have HT := Lib.hid (HT.out.keep hb1)
  have HB := Lib.hid (below_t HB.out hb1)
  have HA := Lib.hid (HA.out.keep hb1 HA.out.lt)
  have c0 := HA.out.cell (i := 0) rfl
  have c1 := HA.out.cell (i := 1) rfl
  have c2 := HA.out.cell (i := 2) rfl
  have c3 := HA.out.cell (i := 3) rfl
  have c4 := HA.out.cell (i := 4) rfl
  have c5 := HA.out.cell (i := 5) rfl
  clear hb1
  go_wp2_with fail
  refine (Small_any x w1 HN.out HT.out f HF.out).mono ?_
  rintro e2 w2 ⟨rfl, hb2⟩
  clear c0 c1 c2 c3 c4 c5
  have HT := Lib.hid (HT.out.keep hb2)
  have HB := Lib.hid (below_t HB.out hb2)
  have HA := Lib.hid (HA.out.keep hb2 HA.out.lt)
  clear hb2
  cases f with
  | false =>
    go_wp2_with fail
    refine (awake08 w2).mono ?_
    rintro e3 w3 ⟨rfl, hb3⟩
    have HB3 := Lib.hid (below_t HB.out hb3)
    clear hb3
    go_wp2_with fail
    exact ⟨_, results_tmp rfl _ _ _, rfl, HB3.out⟩
  | true =>
    have hff := HF.out
    simp only [Bool.and_eq_true] at hff
    have HR := Lib.hid hff.2
    have hsz : sizeT x ≤ 300 := by have := few_size hff.1; omega
    have HS := Lib.hid hsz
    obtain ⟨V3, bn, bl, hbn, hbl, hV3, on, ol, hb3, hs3⟩ := counts_boxes w2
    have oA := HA.out.keep hb3 HA.out.lt
    have hlow := below_t HB.out hb3
    have hlt := HA.out.lt
    have hb4 := below_alloc V3 (.cells #[.int .i64 x.d.kind, .int .i64 x.d.fn, .int .i64 x.d.axis, .string x.d.name, .slice x.d.np x.d.nums.length x.d.nc, .slice x.d.kp x.d.n x.d.kc] 25)
    have oB := Own.made V3 _ [.int .i64 x.d.kind, .int .i64 x.d.fn, .int .i64 x.d.axis, .string x.d.name, .slice x.d.np x.d.nums.length x.d.nc, .slice x.d.kp x.d.n x.d.kc] 25 rfl
    obtain ⟨V4, hV4⟩ : ∃ V4, V3.alloc (.cells #[.int .i64 x.d.kind, .int .i64 x.d.fn, .int .i64 x.d.axis, .string x.d.name, .slice x.d.np x.d.nums.length x.d.nc, .slice x.d.kp x.d.n x.d.kc] 25) = V4 := ⟨_, rfl⟩
    have oB : Own V4 V3.heap.size 25 [.int .i64 x.d.kind, .int .i64 x.d.fn, .int .i64 x.d.axis, .string x.d.name, .slice x.d.np x.d.nums.length x.d.nc, .slice x.d.kp x.d.n x.d.kc] := hV4 ▸ oB
    rw [hV4] at hb4
    have hs4 : V4.heap.size = V3.heap.size + 1 := by rw [← hV4]; simp
    obtain ⟨bs, hbs⟩ : ∃ bs, V3.heap.size = bs := ⟨_, rfl⟩
    rw [hbs] at oB
    have HI0 : Hid (CntI w x bn bl V4.heap.size [] V4) := ⟨below_t hlow hb4, oA.keep hb4 oA.lt, on.keep hb4 on.lt, ⟨false, ol.keep hb4 ol.lt, fun p y e => by simp at e⟩, Nat.le_refl _, by omega, by omega, by omega⟩
    have HV3 := Lib.hid hV3
    have HV4 := Lib.hid hV4
    have HOB := Lib.hid oB
    have HE : Hid (bn = w2.heap.size ∧ bl = bn + 1 ∧ V3.heap.size = bs ∧ V4.heap.size = bs + 1 ∧ bs = bl + 1 ∧ w.heap.size < bn) := ⟨hbn, hbl, hbs, by omega, by omega, by omega⟩
    have HL4 := Lib.hid (below_t hlow hb4)
    have HA3 := Lib.hid oA
    have heq := run_eql_seq
    have q0 : ((w2.alloc (.cells #[.int .i64 0] 3)).alloc (.cells #[.bool false] 4)).cell? ⟨w.heap.size, 0, none⟩ = some (.int .i64 x.d.kind) := by rw [hV3]; exact oA.cell (i := 0) rfl
    have q1 : ((w2.alloc (.cells #[.int .i64 0] 3)).alloc (.cells #[.bool false] 4)).cell? ⟨w.heap.size, 1, none⟩ = some (.int .i64 x.d.fn) := by rw [hV3]; exact oA.cell (i := 1) rfl
    have q2 : ((w2.alloc (.cells #[.int .i64 0] 3)).alloc (.cells #[.bool false] 4)).cell? ⟨w.heap.size, 2, none⟩ = some (.int .i64 x.d.axis) := by rw [hV3]; exact oA.cell (i := 2) rfl
    have q3 : ((w2.alloc (.cells #[.int .i64 0] 3)).alloc (.cells #[.bool false] 4)).cell? ⟨w.heap.size, 3, none⟩ = some (.string x.d.name) := by rw [hV3]; exact oA.cell (i := 3) rfl
    have q4 : ((w2.alloc (.cells #[.int .i64 0] 3)).alloc (.cells #[.bool false] 4)).cell? ⟨w.heap.size, 4, none⟩ = some (.slice x.d.np x.d.nums.length x.d.nc) := by rw [hV3]; exact oA.cell (i := 4) rfl
    have q5 : ((w2.alloc (.cells #[.int .i64 0] 3)).alloc (.cells #[.bool false] 4)).cell? ⟨w.heap.size, 5, none⟩ = some (.slice x.d.kp x.d.n x.d.kc) := by rw [hV3]; exact oA.cell (i := 5) rfl
    clear hff hsz hbn hbl hV3 on ol hb3 hs3 oA hlow hb4 oB hV4 hs4 hbs hlt HA HB
    go_wp2_with fail
    rw [← HE.out.1, ← HE.out.2.1, HV3.out]
    refine (Steps_any x.d V3).mono ?_
    rintro e6 w6 ⟨rfl, rfl⟩
    rw [HE.out.2.2.1, HV4.out]
    clear q0 q1 q2 q3 q4 q5 HV3 HV4
    go_wp2_with fail
    refine wpIn_wide.1 (wpIn_range_steps (n := 4) w x HT0.out HL4.out bs HOB.out rfl rfl
      (CntI w x bn bl V4.heap.size) (fun _ _ _ => False) CntI.abides (fun _ _ _ _ _ h _ _ => h) HI0.out
      (fun k a' V => ∃ Bk, V4.heap.size ≤ Bk ∧ Own V Bk 25 [.int .i64 k.d.kind, .int .i64 k.d.fn, .int .i64 k.d.axis, .string k.d.name, .slice k.d.np k.d.nums.length k.d.nc, .slice k.d.kp k.d.n k.d.kc] ∧ a' = { tmps := #[.agg #[.int .i64 x.d.kind, .int .i64 x.d.fn, .int .i64 x.d.axis, .string x.d.name, .slice x.d.np x.d.nums.length x.d.nc, .slice x.d.kp x.d.n x.d.kc], .pointer (some ⟨w.heap.size, 0, none⟩), .bool false, .pointer (some ⟨bn, 0, none⟩), .pointer (some ⟨bl, 0, none⟩), .func (.func 35) #[] #[.pointer (some ⟨bs, 0, none⟩)], .pointer (some ⟨Bk, 0, none⟩), undef, .bool true, .bool false, .bool false, .agg #[.int .i64 x.d.kind, .int .i64 x.d.fn, .int .i64 x.d.axis, .string x.d.name, .slice x.d.np x.d.nums.length x.d.nc, .slice x.d.kp x.d.n x.d.kc], .bool true, .bool false, .bool false, undef, .agg #[.int .i64 x.d.kind, .int .i64 x.d.fn, .int .i64 x.d.axis, .string x.d.name, .slice x.d.np x.d.nums.length x.d.nc, .slice x.d.kp x.d.n x.d.kc], .func (.func 35) #[] #[.pointer (some ⟨bs, 0, none⟩)], .func (.func 35) #[] #[.pointer (some ⟨bs, 0, none⟩)], .bool false, .func (.func 35) #[] #[.pointer (some ⟨bs, 0, none⟩)], .agg #[.int .i64 k.d.kind, .int .i64 k.d.fn, .int .i64 k.d.axis, .string k.d.name, .slice k.d.np k.d.nums.length k.d.nc, .slice k.d.kp k.d.n k.d.kc], undef, undef, undef, undef, undef, undef, undef, undef, undef, undef, undef, undef, undef, undef, undef, undef, undef, undef, undef, undef, undef, undef, undef, undef, undef, undef, undef, undef, undef, undef, undef, undef, undef, undef, undef, undef, undef, undef, undef, undef, undef, undef, undef, undef], defers := [] }) ?ax ?assign ?body ?done ?stop)
    case ax =>
      rintro k a' V o o' ⟨Bk, hBk, ho, e⟩ hl hc
      refine ⟨Bk, hBk, ho.grown (grownBy_putObj' _ _ _) fun e => ?_, e⟩
      cases e
      obtain ⟨r, h'⟩ := ho
      rw [h'] at hl
      cases hl
      cases hc
    case assign =>
      intro l' pre k V K hI hK
      have HK := Lib.hid hK
      have HI := Lib.hid hI
      clear hK hI
      gi_wp2
      have hI := HI.out
      exact HK.out _ _ (KpS.of (below_alloc _ _) hI.low.size) (CntI.abides.below hI (below_alloc _ _)) ⟨V.heap.size, hI.sz, Own.made V _ [.int .i64 k.d.kind, .int .i64 k.d.fn, .int .i64 k.d.axis, .string k.d.name, .slice k.d.np k.d.nums.length k.d.nc, .slice k.d.kp k.d.n k.d.kc] _ rfl, rfl⟩
    case body =>
      rintro l' pre k a' V rfl ⟨r, hr⟩ hI ⟨Bk, hBk, hoK, rfl⟩ hmap
      have hin : k ∈ stepsT x := by
        have : k ∈ (stepsT x).take (pre.length + 1) := by rw [← hmap]; simp
        exact List.mem_of_mem_take this
      have hlen : pre.length ≤ 300 := cnt_len hmap HS.out
      obtain ⟨r0, hl0, -⟩ := hI.last
      have hE := HE.out
      have hord := hI.ord
      have hx0 := HT0.out.keep hI.low
      have hk0 := stepsT_in hx0 hin
      obtain ⟨hw1, hw2⟩ := cnt_round hlen
      obtain ⟨Z, hZ⟩ : ∃ Z, V.setCell ⟨bn, 0, none⟩ (.int .i64 ((pre.length : Int) + 1)) = Z := ⟨_, rfl⟩
      have hgs := grownBy_setCell' V bn (.int .i64 ((pre.length : Int) + 1))
      rw [hZ] at hgs
      have zk : Own Z Bk 25 [.int .i64 k.d.kind, .int .i64 k.d.fn, .int .i64 k.d.axis, .string k.d.name, .slice k.d.np k.d.nums.length k.d.nc, .slice k.d.kp k.d.n k.d.kc] := by rw [← hZ]; exact hoK.other (by show bn ≠ Bk; omega) _
      have zx : Own Z w.heap.size 25 [.int .i64 x.d.kind, .int .i64 x.d.fn, .int .i64 x.d.axis, .string x.d.name, .slice x.d.np x.d.nums.length x.d.nc, .slice x.d.kp x.d.n x.d.kc] := by rw [← hZ]; exact hI.box.other (by show bn ≠ w.heap.size; omega) _
      have zn : Own Z bn 3 [.int .i64 ((pre.length : Int) + 1)] := by rw [← hZ]; exact hI.n.set (i := 0) (by simp) _
      have zl : Own Z bl 4 [.bool r0] := by rw [← hZ]; exact hl0.other (by show bn ≠ bl; omega) _
      have zlow : Below w.heap.size w Z := hI.low.grown hgs hI.low.size fun r e => by cases e; omega
      have hsz := hI.sz
      have zkp : KpS w.heap.size (fun k => V4.heap.size ≤ k) V Z := KpS.grown hgs hI.low.size fun r e => by cases e; exact ⟨by omega, fun h => by omega⟩
      have HC := Lib.hid (RSame_any k x Z (sameT k x) rfl (stepsT_in (HT0.out.keep zlow) hin) (HT0.out.keep zlow))
      have cn := hI.n.cell (i := 0) rfl
      have fnn := hI.n.frozen 0
      have HZ := Lib.hid hZ
      have k0 : (V.setCell ⟨bn, 0, none⟩ (.int .i64 ((pre.length : Int) + 1))).cell? ⟨Bk, 0, none⟩ = some (.int .i64 k.d.kind) := by rw [hZ]; exact zk.cell (i := 0) rfl
      have k1 : (V.setCell ⟨bn, 0, none⟩ (.int .i64 ((pre.length : Int) + 1))).cell? ⟨Bk, 1, none⟩ = some (.int .i64 k.d.fn) := by rw [hZ]; exact zk.cell (i := 1) rfl
      have k2 : (V.setCell ⟨bn, 0, none⟩ (.int .i64 ((pre.length : Int) + 1))).cell? ⟨Bk, 2, none⟩ = some (.int .i64 k.d.axis) := by rw [hZ]; exact zk.cell (i := 2) rfl
      have k3 : (V.setCell ⟨bn, 0, none⟩ (.int .i64 ((pre.length : Int) + 1))).cell? ⟨Bk, 3, none⟩ = some (.string k.d.name) := by rw [hZ]; exact zk.cell (i := 3) rfl
      have k4 : (V.setCell ⟨bn, 0, none⟩ (.int .i64 ((pre.length : Int) + 1))).cell? ⟨Bk, 4, none⟩ = some (.slice k.d.np k.d.nums.length k.d.nc) := by rw [hZ]; exact zk.cell (i := 4) rfl
      have k5 : (V.setCell ⟨bn, 0, none⟩ (.int .i64 ((pre.length : Int) + 1))).cell? ⟨Bk, 5, none⟩ = some (.slice k.d.kp k.d.n k.d.kc) := by rw [hZ]; exact zk.cell (i := 5) rfl
      have x0 : (V.setCell ⟨bn, 0, none⟩ (.int .i64 ((pre.length : Int) + 1))).cell? ⟨w.heap.size, 0, none⟩ = some (.int .i64 x.d.kind) := by rw [hZ]; exact zx.cell (i := 0) rfl
      have x1 : (V.setCell ⟨bn, 0, none⟩ (.int .i64 ((pre.length : Int) + 1))).cell? ⟨w.heap.size, 1, none⟩ = some (.int .i64 x.d.fn) := by rw [hZ]; exact zx.cell (i := 1) rfl
      have x2 : (V.setCell ⟨bn, 0, none⟩ (.int .i64 ((pre.length : Int) + 1))).cell? ⟨w.heap.size, 2, none⟩ = some (.int .i64 x.d.axis) := by rw [hZ]; exact zx.cell (i := 2) rfl
      have x3 : (V.setCell ⟨bn, 0, none⟩ (.int .i64 ((pre.length : Int) + 1))).cell? ⟨w.heap.size, 3, none⟩ = some (.string x.d.name) := by rw [hZ]; exact zx.cell (i := 3) rfl
      have x4 : (V.setCell ⟨bn, 0, none⟩ (.int .i64 ((pre.length : Int) + 1))).cell? ⟨w.heap.size, 4, none⟩ = some (.slice x.d.np x.d.nums.length x.d.nc) := by rw [hZ]; exact zx.cell (i := 4) rfl
      have x5 : (V.setCell ⟨bn, 0, none⟩ (.int .i64 ((pre.length : Int) + 1))).cell? ⟨w.heap.size, 5, none⟩ = some (.slice x.d.kp x.d.n x.d.kc) := by rw [hZ]; exact zx.cell (i := 5) rfl
      have HF := Lib.hid (fun (z : World) (hb : Below Z.heap.size Z z) => show KpS w.heap.size (fun k => V4.heap.size ≤ k) V (z.setCell ⟨bl, 0, none⟩ (.bool (sameT k x))) ∧ CntI w x bn bl V4.heap.size (pre ++ [k]) (z.setCell ⟨bl, 0, none⟩ (.bool (sameT k x))) by
        have hg2 := grownBy_setCell' z bl (.bool (sameT k x))
        have l1 : Below w.heap.size w z := below_t zlow hb
        refine ⟨(zkp.trans (KpS.of hb zlow.size)).trans (KpS.grown hg2 l1.size fun r e => by cases e; exact ⟨by omega, fun h => by omega⟩), l1.grown hg2 l1.size fun r e => by cases e; omega, (zx.keep hb zx.lt).other (by show bl ≠ w.heap.size; omega) _, ?_, ⟨_, (zl.keep hb zl.lt).set (i := 0) (by simp) _, fun p y e => ?_⟩, ?_, hord⟩
        · have := (zn.keep hb zn.lt).other (a := ⟨bl, 0, none⟩) (by show bl ≠ bn; omega) (.bool (sameT k x))
          rw [List.length_append]
          exact this
        · have e2 := (List.append_inj' e rfl).2
          cases e2
          rfl
        · have h1 := hgs.size
          have h2 := hb.size
          have h3 := hg2.size
          omega)
      have HL := Lib.hid zl
      clear hE hx0 hk0 hZ hgs zk zx zn zl zlow zkp hI hoK hmap hin hr hl0 hord hsz hlen hBk
      gi_wp2
      rw [HZ.out]
      clear HZ
      refine ⟨trivial, (CallsIn.inRound _ (callsIn_wide.2 HC.out)).mono ?_⟩
      rintro e7 z7 ⟨rfl, hb7⟩
      have HV := Lib.hid (HF.out z7 hb7)
      have ol7 := HL.out.keep hb7 HL.out.lt
      have cl := ol7.cell (i := 0) rfl
      have fl := ol7.frozen 0
      clear HC HF HL ol7 hb7 k0 k1 k2 k3 k4 k5 x0 x1 x2 x3 x4 x5 cn fnn
      gi_wp2
      exact HV.out
    case done =>
      rintro D V hD hI hK
      obtain ⟨r, hl, hlast⟩ := hI.last
      obtain ⟨p, hp⟩ := stepsT_last x
      have hr := hlast p x hp
      rw [sameT_refl] at hr
      subst hr
      have hn := hI.n
      rw [stepsT_len] at hn
      have hxV := HT0.out.keep hI.low
      obtain ⟨Z1, gm, bm, hgm, hbm, hZ1, om, hrm, hbZ⟩ := rav_boxes V x hxV
      have hE := HE.out
      have oX := hI.box.keep hbZ hI.box.lt
      have oN := hn.keep hbZ hn.lt
      have oL := hl.keep hbZ hl.lt
      have HX1 := Lib.hid (hxV.keep hbZ)
      have HM1 := Lib.hid hrm
      have hKD := (hbZ.block D (Array.getElem?_eq_some_iff.1 hK).1).trans hK
      have HKD := Lib.hid hKD
      have HLZ := Lib.hid (below_t hI.low hbZ)
      have HSS : Hid (sizeT x ≤ 100000) := Nat.le_trans HS.out (by decide)
      have HDL : Hid (w.heap.size ≤ D) := Nat.le_trans HL4.out.size hD
      obtain ⟨b, hb⟩ : ∃ b, decide ((depthT x : Int) < 100) = b := ⟨_, rfl⟩
      have HBD := Lib.hid hb
      obtain ⟨hle, hw1, hw2, hw3, hw4⟩ := cnt_facts HS.out
      have hpre := fun (z : World) (hz : Below Z1.heap.size Z1 z) => And.intro (oX.keep hz oX.lt) (And.intro (oN.keep hz oN.lt) (And.intro (oL.keep hz oL.lt) (om.keep hz om.lt)))
      have cV := hI.box
      have r0 := cV.cell (i := 0) rfl
      have r1 := cV.cell (i := 1) rfl
      have r2 := cV.cell (i := 2) rfl
      have r3 := cV.cell (i := 3) rfl
      have r4 := cV.cell (i := 4) rfl
      have r5 := cV.cell (i := 5) rfl
      have HZ1 := Lib.hid hZ1
      have HGM : Hid (V.heap.size = gm ∧ gm + 1 = bm) := ⟨hgm.symm, hbm.symm⟩
      clear hl hlast hp hn hxV hgm hbm hZ1 om hrm hE oX oN oL hKD hb hI hK hD cV hbZ
      go_upto_region 13 with fail
      rw [HGM.out.1, HGM.out.2, HZ1.out]
      clear r0 r1 r2 r3 r4 r5
      refine wp_region_noPanic ?_
      refine wp_region_held_drew (S := (fun z => Below Z1.heap.size Z1 z)) (by kernel_rfl) ?_ (fun hHeld => ?_)
      · (try dsimp only); exact (Below.refl _ Z1).drew
      refine takeH 0 (some 30) (v := ?_) rfl rfl (by kernel_rfl) (by kernel_rfl) (by kernel_rfl) (by rfl) ?_ (by exact hHeld) ?_
      rotate_left
      · intro w hSw; (try dsimp only at hSw); obtain ⟨m1, m2, m3, m4⟩ := hpre _ hSw; have r0 := m1.cell (i := 0) rfl; have r1 := m1.cell (i := 1) rfl; have r2 := m1.cell (i := 2) rfl; have r3 := m1.cell (i := 3) rfl; have r4 := m1.cell (i := 4) rfl; have r5 := m1.cell (i := 5) rfl; have s0 := m2.cell (i := 0) rfl; have u0 := m3.cell (i := 0) rfl; have t0 := m4.cell (i := 0) rfl; have t1 := m4.cell (i := 1) rfl; have t2 := m4.cell (i := 2) rfl; have t3 := m4.cell (i := 3) rfl; have t4 := m4.cell (i := 4) rfl; have t5 := m4.cell (i := 5) rfl; clear m1 m2 m3 m4; go_simp; try (with_reducible rfl)
      try simp only [Act.put, List.setIfInBounds_toArray, List.set_cons_zero, List.set_cons_succ]
      refine takeH 1 (some 31) (v := ?_) rfl rfl (by kernel_rfl) (by kernel_rfl) (by kernel_rfl) (by rfl) ?_ (by exact hHeld) ?_
      rotate_left
      · intro w hSw; (try dsimp only at hSw); obtain ⟨m1, m2, m3, m4⟩ := hpre _ hSw; have r0 := m1.cell (i := 0) rfl; have r1 := m1.cell (i := 1) rfl; have r2 := m1.cell (i := 2) rfl; have r3 := m1.cell (i := 3) rfl; have r4 := m1.cell (i := 4) rfl; have r5 := m1.cell (i := 5) rfl; have s0 := m2.cell (i := 0) rfl; have u0 := m3.cell (i := 0) rfl; have t0 := m4.cell (i := 0) rfl; have t1 := m4.cell (i := 1) rfl; have t2 := m4.cell (i := 2) rfl; have t3 := m4.cell (i := 3) rfl; have t4 := m4.cell (i := 4) rfl; have t5 := m4.cell (i := 5) rfl; clear m1 m2 m3 m4; go_simp; try (with_reducible rfl)
      try simp only [Act.put, List.setIfInBounds_toArray, List.set_cons_zero, List.set_cons_succ]
      refine takeH 2 (some 32) (v := ?_) rfl rfl (by kernel_rfl) (by kernel_rfl) (by kernel_rfl) (by rfl) ?_ (by exact hHeld) ?_
      rotate_left
      · intro w hSw; (try dsimp only at hSw); obtain ⟨m1, m2, m3, m4⟩ := hpre _ hSw; have r0 := m1.cell (i := 0) rfl; have r1 := m1.cell (i := 1) rfl; have r2 := m1.cell (i := 2) rfl; have r3 := m1.cell (i := 3) rfl; have r4 := m1.cell (i := 4) rfl; have r5 := m1.cell (i := 5) rfl; have s0 := m2.cell (i := 0) rfl; have u0 := m3.cell (i := 0) rfl; have t0 := m4.cell (i := 0) rfl; have t1 := m4.cell (i := 1) rfl; have t2 := m4.cell (i := 2) rfl; have t3 := m4.cell (i := 3) rfl; have t4 := m4.cell (i := 4) rfl; have t5 := m4.cell (i := 5) rfl; clear m1 m2 m3 m4; go_simp; try (with_reducible rfl)
      try simp only [Act.put, List.setIfInBounds_toArray, List.set_cons_zero, List.set_cons_succ]
      refine takeH 3 (some 33) (v := ?_) rfl rfl (by kernel_rfl) (by kernel_rfl) (by kernel_rfl) (by rfl) ?_ (by exact hHeld) ?_
      rotate_left
      · intro w hSw; (try dsimp only at hSw); obtain ⟨m1, m2, m3, m4⟩ := hpre _ hSw; have r0 := m1.cell (i := 0) rfl; have r1 := m1.cell (i := 1) rfl; have r2 := m1.cell (i := 2) rfl; have r3 := m1.cell (i := 3) rfl; have r4 := m1.cell (i := 4) rfl; have r5 := m1.cell (i := 5) rfl; have s0 := m2.cell (i := 0) rfl; have u0 := m3.cell (i := 0) rfl; have t0 := m4.cell (i := 0) rfl; have t1 := m4.cell (i := 1) rfl; have t2 := m4.cell (i := 2) rfl; have t3 := m4.cell (i := 3) rfl; have t4 := m4.cell (i := 4) rfl; have t5 := m4.cell (i := 5) rfl; clear m1 m2 m3 m4; go_simp; try (with_reducible rfl)
      try simp only [Act.put, List.setIfInBounds_toArray, List.set_cons_zero, List.set_cons_succ]
      refine wpAnyH_ready (rs := [4]) (by kernel_rfl) (by simp) ?_
      refine stepH 4 rfl (by rfl) (fun K hK => ?_) ?_
      · go_simp
        ((with_reducible refine (Size_any x _ HSS.out ?_).mono ?_); (exact HX1.out.keep hHeld); rintro e z4 ⟨rfl, q4⟩)
        refine hK.out _ _ ?_ (fun hNew => ?_)
        · (try dsimp only); first | exact below_t hHeld q4 | exact below_t hHeld q9 | exact below_t hHeld q15 | exact below_t hHeld q22 | exact below_t hHeld q24 | exact below_t hHeld q30 | exact below_t hHeld q32
        clear hK K hHeld
        have hHeld := hNew
        clear hNew
        try dsimp only at hHeld
        try simp only [Act.put, List.setIfInBounds_toArray, List.set_cons_zero, List.set_cons_succ]
        refine takeH 5 (some 35) (v := ?_) rfl rfl (by kernel_rfl) (by kernel_rfl) (by kernel_rfl) (by rfl) ?_ (by exact hHeld) ?_
        rotate_left
        · intro w hSw; (try dsimp only at hSw); obtain ⟨m1, m2, m3, m4⟩ := hpre _ hSw; have r0 := m1.cell (i := 0) rfl; have r1 := m1.cell (i := 1) rfl; have r2 := m1.cell (i := 2) rfl; have r3 := m1.cell (i := 3) rfl; have r4 := m1.cell (i := 4) rfl; have r5 := m1.cell (i := 5) rfl; have s0 := m2.cell (i := 0) rfl; have u0 := m3.cell (i := 0) rfl; have t0 := m4.cell (i := 0) rfl; have t1 := m4.cell (i := 1) rfl; have t2 := m4.cell (i := 2) rfl; have t3 := m4.cell (i := 3) rfl; have t4 := m4.cell (i := 4) rfl; have t5 := m4.cell (i := 5) rfl; clear m1 m2 m3 m4; go_simp; try (with_reducible rfl)
        try simp only [Act.put, List.setIfInBounds_toArray, List.set_cons_zero, List.set_cons_succ]
        refine takeH 6 (some 36) (v := ?_) rfl rfl (by kernel_rfl) (by kernel_rfl) (by kernel_rfl) (by rfl) ?_ (by exact hHeld) ?_
        rotate_left
        · intro w hSw; (try dsimp only at hSw); obtain ⟨m1, m2, m3, m4⟩ := hpre _ hSw; have r0 := m1.cell (i := 0) rfl; have r1 := m1.cell (i := 1) rfl; have r2 := m1.cell (i := 2) rfl; have r3 := m1.cell (i := 3) rfl; have r4 := m1.cell (i := 4) rfl; have r5 := m1.cell (i := 5) rfl; have s0 := m2.cell (i := 0) rfl; have u0 := m3.cell (i := 0) rfl; have t0 := m4.cell (i := 0) rfl; have t1 := m4.cell (i := 1) rfl; have t2 := m4.cell (i := 2) rfl; have t3 := m4.cell (i := 3) rfl; have t4 := m4.cell (i := 4) rfl; have t5 := m4.cell (i := 5) rfl; clear m1 m2 m3 m4; go_simp; try (with_reducible rfl)
        try simp only [Act.put, List.setIfInBounds_toArray, List.set_cons_zero, List.set_cons_succ]
        refine takeH 7 (some 37) (v := ?_) rfl rfl (by kernel_rfl) (by kernel_rfl) (by kernel_rfl) (by rfl) ?_ (by exact hHeld) ?_
        rotate_left
        · intro w hSw; (try dsimp only at hSw); obtain ⟨m1, m2, m3, m4⟩ := hpre _ hSw; have r0 := m1.cell (i := 0) rfl; have r1 := m1.cell (i := 1) rfl; have r2 := m1.cell (i := 2) rfl; have r3 := m1.cell (i := 3) rfl; have r4 := m1.cell (i := 4) rfl; have r5 := m1.cell (i := 5) rfl; have s0 := m2.cell (i := 0) rfl; have u0 := m3.cell (i := 0) rfl; have t0 := m4.cell (i := 0) rfl; have t1 := m4.cell (i := 1) rfl; have t2 := m4.cell (i := 2) rfl; have t3 := m4.cell (i := 3) rfl; have t4 := m4.cell (i := 4) rfl; have t5 := m4.cell (i := 5) rfl; clear m1 m2 m3 m4; go_simp; try (with_reducible rfl)
        try simp only [Act.put, List.setIfInBounds_toArray, List.set_cons_zero, List.set_cons_succ]
        refine takeH 8 (some 38) (v := ?_) rfl rfl (by kernel_rfl) (by kernel_rfl) (by kernel_rfl) (by rfl) ?_ (by exact hHeld) ?_
        rotate_left
        · intro w hSw; (try dsimp only at hSw); obtain ⟨m1, m2, m3, m4⟩ := hpre _ hSw; have r0 := m1.cell (i := 0) rfl; have r1 := m1.cell (i := 1) rfl; have r2 := m1.cell (i := 2) rfl; have r3 := m1.cell (i := 3) rfl; have r4 := m1.cell (i := 4) rfl; have r5 := m1.cell (i := 5) rfl; have s0 := m2.cell (i := 0) rfl; have u0 := m3.cell (i := 0) rfl; have t0 := m4.cell (i := 0) rfl; have t1 := m4.cell (i := 1) rfl; have t2 := m4.cell (i := 2) rfl; have t3 := m4.cell (i := 3) rfl; have t4 := m4.cell (i := 4) rfl; have t5 := m4.cell (i := 5) rfl; clear m1 m2 m3 m4; go_simp; try (with_reducible rfl)
        try simp only [Act.put, List.setIfInBounds_toArray, List.set_cons_zero, List.set_cons_succ]
        refine takeH 10 (some 40) (v := ?_) rfl rfl (by kernel_rfl) (by kernel_rfl) (by kernel_rfl) (by rfl) ?_ (by exact hHeld) ?_
        rotate_left
        · intro w hSw; (try dsimp only at hSw); obtain ⟨m1, m2, m3, m4⟩ := hpre _ hSw; have r0 := m1.cell (i := 0) rfl; have r1 := m1.cell (i := 1) rfl; have r2 := m1.cell (i := 2) rfl; have r3 := m1.cell (i := 3) rfl; have r4 := m1.cell (i := 4) rfl; have r5 := m1.cell (i := 5) rfl; have s0 := m2.cell (i := 0) rfl; have u0 := m3.cell (i := 0) rfl; have t0 := m4.cell (i := 0) rfl; have t1 := m4.cell (i := 1) rfl; have t2 := m4.cell (i := 2) rfl; have t3 := m4.cell (i := 3) rfl; have t4 := m4.cell (i := 4) rfl; have t5 := m4.cell (i := 5) rfl; clear m1 m2 m3 m4; go_simp; try (with_reducible rfl)
        try simp only [Act.put, List.setIfInBounds_toArray, List.set_cons_zero, List.set_cons_succ]
        refine wpAnyH_ready (rs := [9]) (by kernel_rfl) (by simp) ?_
        refine stepH 9 rfl (by rfl) (fun K hK => ?_) ?_
        · go_simp
          ((with_reducible refine (Depth_any x _ HSS.out ?_).mono ?_); (exact HX1.out.keep hHeld); rintro e z9 ⟨rfl, q9⟩)
          refine hK.out _ _ ?_ (fun hNew => ?_)
          · (try dsimp only); first | exact below_t hHeld q4 | exact below_t hHeld q9 | exact below_t hHeld q15 | exact below_t hHeld q22 | exact below_t hHeld q24 | exact below_t hHeld q30 | exact below_t hHeld q32
          clear hK K hHeld
          have hHeld := hNew
          clear hNew
          try dsimp only at hHeld
          try simp only [Act.put, List.setIfInBounds_toArray, List.set_cons_zero, List.set_cons_succ]
          refine takeH 11 (some 41) (v := ?_) rfl rfl (by kernel_rfl) (by kernel_rfl) (by kernel_rfl) (by rfl) ?_ (by exact hHeld) ?_
          rotate_left
          · intro w hSw; (try dsimp only at hSw); obtain ⟨m1, m2, m3, m4⟩ := hpre _ hSw; have r0 := m1.cell (i := 0) rfl; have r1 := m1.cell (i := 1) rfl; have r2 := m1.cell (i := 2) rfl; have r3 := m1.cell (i := 3) rfl; have r4 := m1.cell (i := 4) rfl; have r5 := m1.cell (i := 5) rfl; have s0 := m2.cell (i := 0) rfl; have u0 := m3.cell (i := 0) rfl; have t0 := m4.cell (i := 0) rfl; have t1 := m4.cell (i := 1) rfl; have t2 := m4.cell (i := 2) rfl; have t3 := m4.cell (i := 3) rfl; have t4 := m4.cell (i := 4) rfl; have t5 := m4.cell (i := 5) rfl; clear m1 m2 m3 m4; go_simp; try (with_reducible rfl)
          try simp only [Act.put, List.setIfInBounds_toArray, List.set_cons_zero, List.set_cons_succ]
          refine takeH 12 (some 42) (v := ?_) rfl rfl (by kernel_rfl) (by kernel_rfl) (by kernel_rfl) (by rfl) ?_ (by exact hHeld) ?_
          rotate_left
          · intro w hSw; (try dsimp only at hSw); obtain ⟨m1, m2, m3, m4⟩ := hpre _ hSw; have r0 := m1.cell (i := 0) rfl; have r1 := m1.cell (i := 1) rfl; have r2 := m1.cell (i := 2) rfl; have r3 := m1.cell (i := 3) rfl; have r4 := m1.cell (i := 4) rfl; have r5 := m1.cell (i := 5) rfl; have s0 := m2.cell (i := 0) rfl; have u0 := m3.cell (i := 0) rfl; have t0 := m4.cell (i := 0) rfl; have t1 := m4.cell (i := 1) rfl; have t2 := m4.cell (i := 2) rfl; have t3 := m4.cell (i := 3) rfl; have t4 := m4.cell (i := 4) rfl; have t5 := m4.cell (i := 5) rfl; clear m1 m2 m3 m4; go_simp; try (with_reducible rfl)
          try simp only [Act.put, List.setIfInBounds_toArray, List.set_cons_zero, List.set_cons_succ]
          refine takeH 13 (some 43) (v := ?_) rfl rfl (by kernel_rfl) (by kernel_rfl) (by kernel_rfl) (by rfl) ?_ (by exact hHeld) ?_
          rotate_left
          · intro w hSw; (try dsimp only at hSw); obtain ⟨m1, m2, m3, m4⟩ := hpre _ hSw; have r0 := m1.cell (i := 0) rfl; have r1 := m1.cell (i := 1) rfl; have r2 := m1.cell (i := 2) rfl; have r3 := m1.cell (i := 3) rfl; have r4 := m1.cell (i := 4) rfl; have r5 := m1.cell (i := 5) rfl; have s0 := m2.cell (i := 0) rfl; have u0 := m3.cell (i := 0) rfl; have t0 := m4.cell (i := 0) rfl; have t1 := m4.cell (i := 1) rfl; have t2 := m4.cell (i := 2) rfl; have t3 := m4.cell (i := 3) rfl; have t4 := m4.cell (i := 4) rfl; have t5 := m4.cell (i := 5) rfl; clear m1 m2 m3 m4; go_simp; try (with_reducible rfl)
          try simp only [Act.put, List.setIfInBounds_toArray, List.set_cons_zero, List.set_cons_succ]
          refine takeH 14 (some 44) (v := ?_) rfl rfl (by kernel_rfl) (by kernel_rfl) (by kernel_rfl) (by rfl) ?_ (by exact hHeld) ?_
          rotate_left
          · intro w hSw; (try dsimp only at hSw); obtain ⟨m1, m2, m3, m4⟩ := hpre _ hSw; have r0 := m1.cell (i := 0) rfl; have r1 := m1.cell (i := 1) rfl; have r2 := m1.cell (i := 2) rfl; have r3 := m1.cell (i := 3) rfl; have r4 := m1.cell (i := 4) rfl; have r5 := m1.cell (i := 5) rfl; have s0 := m2.cell (i := 0) rfl; have u0 := m3.cell (i := 0) rfl; have t0 := m4.cell (i := 0) rfl; have t1 := m4.cell (i := 1) rfl; have t2 := m4.cell (i := 2) rfl; have t3 := m4.cell (i := 3) rfl; have t4 := m4.cell (i := 4) rfl; have t5 := m4.cell (i := 5) rfl; clear m1 m2 m3 m4; go_simp; try (with_reducible rfl)
          try simp only [Act.put, List.setIfInBounds_toArray, List.set_cons_zero, List.set_cons_succ]
          refine takeH 16 (some 46) (v := ?_) rfl rfl (by kernel_rfl) (by kernel_rfl) (by kernel_rfl) (by rfl) ?_ (by exact hHeld) ?_
          rotate_left
          · intro w hSw; (try dsimp only at hSw); obtain ⟨m1, m2, m3, m4⟩ := hpre _ hSw; have r0 := m1.cell (i := 0) rfl; have r1 := m1.cell (i := 1) rfl; have r2 := m1.cell (i := 2) rfl; have r3 := m1.cell (i := 3) rfl; have r4 := m1.cell (i := 4) rfl; have r5 := m1.cell (i := 5) rfl; have s0 := m2.cell (i := 0) rfl; have u0 := m3.cell (i := 0) rfl; have t0 := m4.cell (i := 0) rfl; have t1 := m4.cell (i := 1) rfl; have t2 := m4.cell (i := 2) rfl; have t3 := m4.cell (i := 3) rfl; have t4 := m4.cell (i := 4) rfl; have t5 := m4.cell (i := 5) rfl; clear m1 m2 m3 m4; go_simp; try (with_reducible rfl)
          try simp only [Act.put, List.setIfInBounds_toArray, List.set_cons_zero, List.set_cons_succ]
          refine takeH 17 (some 47) (v := ?_) rfl rfl (by kernel_rfl) (by kernel_rfl) (by kernel_rfl) (by rfl) ?_ (by exact hHeld) ?_
          rotate_left
          · intro w hSw; (try dsimp only at hSw); obtain ⟨m1, m2, m3, m4⟩ := hpre _ hSw; have r0 := m1.cell (i := 0) rfl; have r1 := m1.cell (i := 1) rfl; have r2 := m1.cell (i := 2) rfl; have r3 := m1.cell (i := 3) rfl; have r4 := m1.cell (i := 4) rfl; have r5 := m1.cell (i := 5) rfl; have s0 := m2.cell (i := 0) rfl; have u0 := m3.cell (i := 0) rfl; have t0 := m4.cell (i := 0) rfl; have t1 := m4.cell (i := 1) rfl; have t2 := m4.cell (i := 2) rfl; have t3 := m4.cell (i := 3) rfl; have t4 := m4.cell (i := 4) rfl; have t5 := m4.cell (i := 5) rfl; clear m1 m2 m3 m4; go_simp; try (with_reducible rfl)
          try simp only [Act.put, List.setIfInBounds_toArray, List.set_cons_zero, List.set_cons_succ]
          refine wpAnyH_ready (rs := [15]) (by kernel_rfl) (by simp) ?_
          refine stepH 15 rfl (by rfl) (fun K hK => ?_) ?_
          · go_simp
            ((with_reducible refine (rav_size gm x _ HS.out ?_).mono ?_); (exact HM1.out.keep hHeld); rintro e z15 ⟨rfl, q15⟩)
            refine hK.out _ _ ?_ (fun hNew => ?_)
            · (try dsimp only); first | exact below_t hHeld q4 | exact below_t hHeld q9 | exact below_t hHeld q15 | exact below_t hHeld q22 | exact below_t hHeld q24 | exact below_t hHeld q30 | exact below_t hHeld q32
            clear hK K hHeld
            have hHeld := hNew
            clear hNew
            try dsimp only at hHeld
            try simp only [Act.put, List.setIfInBounds_toArray, List.set_cons_zero, List.set_cons_succ]
            refine takeH 18 (some 48) (v := ?_) rfl rfl (by kernel_rfl) (by kernel_rfl) (by kernel_rfl) (by rfl) ?_ (by exact hHeld) ?_
            rotate_left
            · intro w hSw; (try dsimp only at hSw); obtain ⟨m1, m2, m3, m4⟩ := hpre _ hSw; have r0 := m1.cell (i := 0) rfl; have r1 := m1.cell (i := 1) rfl; have r2 := m1.cell (i := 2) rfl; have r3 := m1.cell (i := 3) rfl; have r4 := m1.cell (i := 4) rfl; have r5 := m1.cell (i := 5) rfl; have s0 := m2.cell (i := 0) rfl; have u0 := m3.cell (i := 0) rfl; have t0 := m4.cell (i := 0) rfl; have t1 := m4.cell (i := 1) rfl; have t2 := m4.cell (i := 2) rfl; have t3 := m4.cell (i := 3) rfl; have t4 := m4.cell (i := 4) rfl; have t5 := m4.cell (i := 5) rfl; clear m1 m2 m3 m4; go_simp; try (with_reducible rfl)
            try simp only [Act.put, List.setIfInBounds_toArray, List.set_cons_zero, List.set_cons_succ]
            refine takeH 19 (some 49) (v := ?_) rfl rfl (by kernel_rfl) (by kernel_rfl) (by kernel_rfl) (by rfl) ?_ (by exact hHeld) ?_
            rotate_left
            · intro w hSw; (try dsimp only at hSw); obtain ⟨m1, m2, m3, m4⟩ := hpre _ hSw; have r0 := m1.cell (i := 0) rfl; have r1 := m1.cell (i := 1) rfl; have r2 := m1.cell (i := 2) rfl; have r3 := m1.cell (i := 3) rfl; have r4 := m1.cell (i := 4) rfl; have r5 := m1.cell (i := 5) rfl; have s0 := m2.cell (i := 0) rfl; have u0 := m3.cell (i := 0) rfl; have t0 := m4.cell (i := 0) rfl; have t1 := m4.cell (i := 1) rfl; have t2 := m4.cell (i := 2) rfl; have t3 := m4.cell (i := 3) rfl; have t4 := m4.cell (i := 4) rfl; have t5 := m4.cell (i := 5) rfl; clear m1 m2 m3 m4; go_simp; try (with_reducible rfl)
            try simp only [Act.put, List.setIfInBounds_toArray, List.set_cons_zero, List.set_cons_succ]
            refine takeH 20 (some 50) (v := ?_) rfl rfl (by kernel_rfl) (by kernel_rfl) (by kernel_rfl) (by rfl) ?_ (by exact hHeld) ?_
            rotate_left
            · intro w hSw; (try dsimp only at hSw); obtain ⟨m1, m2, m3, m4⟩ := hpre _ hSw; have r0 := m1.cell (i := 0) rfl; have r1 := m1.cell (i := 1) rfl; have r2 := m1.cell (i := 2) rfl; have r3 := m1.cell (i := 3) rfl; have r4 := m1.cell (i := 4) rfl; have r5 := m1.cell (i := 5) rfl; have s0 := m2.cell (i := 0) rfl; have u0 := m3.cell (i := 0) rfl; have t0 := m4.cell (i := 0) rfl; have t1 := m4.cell (i := 1) rfl; have t2 := m4.cell (i := 2) rfl; have t3 := m4.cell (i := 3) rfl; have t4 := m4.cell (i := 4) rfl; have t5 := m4.cell (i := 5) rfl; clear m1 m2 m3 m4; go_simp; try (with_reducible rfl)
            try simp only [Act.put, List.setIfInBounds_toArray, List.set_cons_zero, List.set_cons_succ]
            refine takeH 21 (some 51) (v := ?_) rfl rfl (by kernel_rfl) (by kernel_rfl) (by kernel_rfl) (by rfl) ?_ (by exact hHeld) ?_
            rotate_left
            · intro w hSw; (try dsimp only at hSw); obtain ⟨m1, m2, m3, m4⟩ := hpre _ hSw; have r0 := m1.cell (i := 0) rfl; have r1 := m1.cell (i := 1) rfl; have r2 := m1.cell (i := 2) rfl; have r3 := m1.cell (i := 3) rfl; have r4 := m1.cell (i := 4) rfl; have r5 := m1.cell (i := 5) rfl; have s0 := m2.cell (i := 0) rfl; have u0 := m3.cell (i := 0) rfl; have t0 := m4.cell (i := 0) rfl; have t1 := m4.cell (i := 1) rfl; have t2 := m4.cell (i := 2) rfl; have t3 := m4.cell (i := 3) rfl; have t4 := m4.cell (i := 4) rfl; have t5 := m4.cell (i := 5) rfl; clear m1 m2 m3 m4; go_simp; try (with_reducible rfl)
            try simp only [Act.put, List.setIfInBounds_toArray, List.set_cons_zero, List.set_cons_succ]
            refine takeH 23 (some 53) (v := ?_) rfl rfl (by kernel_rfl) (by kernel_rfl) (by kernel_rfl) (by rfl) ?_ (by exact hHeld) ?_
            rotate_left
            · intro w hSw; (try dsimp only at hSw); obtain ⟨m1, m2, m3, m4⟩ := hpre _ hSw; have r0 := m1.cell (i := 0) rfl; have r1 := m1.cell (i := 1) rfl; have r2 := m1.cell (i := 2) rfl; have r3 := m1.cell (i := 3) rfl; have r4 := m1.cell (i := 4) rfl; have r5 := m1.cell (i := 5) rfl; have s0 := m2.cell (i := 0) rfl; have u0 := m3.cell (i := 0) rfl; have t0 := m4.cell (i := 0) rfl; have t1 := m4.cell (i := 1) rfl; have t2 := m4.cell (i := 2) rfl; have t3 := m4.cell (i := 3) rfl; have t4 := m4.cell (i := 4) rfl; have t5 := m4.cell (i := 5) rfl; clear m1 m2 m3 m4; go_simp; try (with_reducible rfl)
            try simp only [Act.put, List.setIfInBounds_toArray, List.set_cons_zero, List.set_cons_succ]
            refine wpAnyH_ready (rs := [22]) (by kernel_rfl) (by simp) ?_
            refine stepH 22 rfl (by rfl) (fun K hK => ?_) ?_
            · go_simp
              ((with_reducible refine (rav_depth gm x _ HS.out ?_).mono ?_); (exact HM1.out.keep hHeld); rintro e z22 ⟨rfl, q22⟩)
              refine hK.out _ _ ?_ (fun hNew => ?_)
              · (try dsimp only); first | exact below_t hHeld q4 | exact below_t hHeld q9 | exact below_t hHeld q15 | exact below_t hHeld q22 | exact below_t hHeld q24 | exact below_t hHeld q30 | exact below_t hHeld q32
              clear hK K hHeld
              have hHeld := hNew
              clear hNew
              try dsimp only at hHeld
              try simp only [Act.put, List.setIfInBounds_toArray, List.set_cons_zero, List.set_cons_succ]
              refine wpAnyH_ready (rs := [24]) (by kernel_rfl) (by simp) ?_
              refine stepH 24 rfl (by rfl) (fun K hK => ?_) ?_
              · go_simp
                ((with_reducible refine (Depth_any x _ HSS.out ?_).mono ?_); (exact HX1.out.keep hHeld); rintro e z24 ⟨rfl, q24⟩)
                refine hK.out _ _ ?_ (fun hNew => ?_)
                · (try dsimp only); first | exact below_t hHeld q4 | exact below_t hHeld q9 | exact below_t hHeld q15 | exact below_t hHeld q22 | exact below_t hHeld q24 | exact below_t hHeld q30 | exact below_t hHeld q32
                clear hK K hHeld
                have hHeld := hNew
                clear hNew
                try dsimp only at hHeld
                try simp only [Act.put, List.setIfInBounds_toArray, List.set_cons_zero, List.set_cons_succ]
                refine takeH 25 (some 55) (v := ?_) rfl rfl (by kernel_rfl) (by kernel_rfl) (by kernel_rfl) (by rfl) ?_ (by exact hHeld) ?_
                rotate_left
                · intro w hSw; (try dsimp only at hSw); obtain ⟨m1, m2, m3, m4⟩ := hpre _ hSw; have r0 := m1.cell (i := 0) rfl; have r1 := m1.cell (i := 1) rfl; have r2 := m1.cell (i := 2) rfl; have r3 := m1.cell (i := 3) rfl; have r4 := m1.cell (i := 4) rfl; have r5 := m1.cell (i := 5) rfl; have s0 := m2.cell (i := 0) rfl; have u0 := m3.cell (i := 0) rfl; have t0 := m4.cell (i := 0) rfl; have t1 := m4.cell (i := 1) rfl; have t2 := m4.cell (i := 2) rfl; have t3 := m4.cell (i := 3) rfl; have t4 := m4.cell (i := 4) rfl; have t5 := m4.cell (i := 5) rfl; clear m1 m2 m3 m4; go_simp; try (with_reducible rfl)
                try simp only [Act.put, List.setIfInBounds_toArray, List.set_cons_zero, List.set_cons_succ]
                refine takeH 26 (some 56) (v := ?_) rfl rfl (by kernel_rfl) (by kernel_rfl) (by kernel_rfl) (by rfl) ?_ (by exact hHeld) ?_
                rotate_left
                · intro w hSw; (try dsimp only at hSw); obtain ⟨m1, m2, m3, m4⟩ := hpre _ hSw; have r0 := m1.cell (i := 0) rfl; have r1 := m1.cell (i := 1) rfl; have r2 := m1.cell (i := 2) rfl; have r3 := m1.cell (i := 3) rfl; have r4 := m1.cell (i := 4) rfl; have r5 := m1.cell (i := 5) rfl; have s0 := m2.cell (i := 0) rfl; have u0 := m3.cell (i := 0) rfl; have t0 := m4.cell (i := 0) rfl; have t1 := m4.cell (i := 1) rfl; have t2 := m4.cell (i := 2) rfl; have t3 := m4.cell (i := 3) rfl; have t4 := m4.cell (i := 4) rfl; have t5 := m4.cell (i := 5) rfl; clear m1 m2 m3 m4; go_simp; try (with_reducible rfl)
                try simp only [Act.put, List.setIfInBounds_toArray, List.set_cons_zero, List.set_cons_succ]
                refine takeH 27 (some 57) (v := ?_) rfl rfl (by kernel_rfl) (by kernel_rfl) (by kernel_rfl) (by rfl) ?_ (by exact hHeld) ?_
                rotate_left
                · intro w hSw; (try dsimp only at hSw); obtain ⟨m1, m2, m3, m4⟩ := hpre _ hSw; have r0 := m1.cell (i := 0) rfl; have r1 := m1.cell (i := 1) rfl; have r2 := m1.cell (i := 2) rfl; have r3 := m1.cell (i := 3) rfl; have r4 := m1.cell (i := 4) rfl; have r5 := m1.cell (i := 5) rfl; have s0 := m2.cell (i := 0) rfl; have u0 := m3.cell (i := 0) rfl; have t0 := m4.cell (i := 0) rfl; have t1 := m4.cell (i := 1) rfl; have t2 := m4.cell (i := 2) rfl; have t3 := m4.cell (i := 3) rfl; have t4 := m4.cell (i := 4) rfl; have t5 := m4.cell (i := 5) rfl; clear m1 m2 m3 m4; go_simp; try (with_reducible rfl)
                try simp only [Act.put, List.setIfInBounds_toArray, List.set_cons_zero, List.set_cons_succ]
                refine takeH 28 (some 58) (v := ?_) rfl rfl (by kernel_rfl) (by kernel_rfl) (by kernel_rfl) (by rfl) ?_ (by exact hHeld) ?_
                rotate_left
                · intro w hSw; (try dsimp only at hSw); obtain ⟨m1, m2, m3, m4⟩ := hpre _ hSw; have r0 := m1.cell (i := 0) rfl; have r1 := m1.cell (i := 1) rfl; have r2 := m1.cell (i := 2) rfl; have r3 := m1.cell (i := 3) rfl; have r4 := m1.cell (i := 4) rfl; have r5 := m1.cell (i := 5) rfl; have s0 := m2.cell (i := 0) rfl; have u0 := m3.cell (i := 0) rfl; have t0 := m4.cell (i := 0) rfl; have t1 := m4.cell (i := 1) rfl; have t2 := m4.cell (i := 2) rfl; have t3 := m4.cell (i := 3) rfl; have t4 := m4.cell (i := 4) rfl; have t5 := m4.cell (i := 5) rfl; clear m1 m2 m3 m4; go_simp; try (with_reducible rfl)
                try simp only [Act.put, List.setIfInBounds_toArray, List.set_cons_zero, List.set_cons_succ]
                refine takeH 29 (some 59) (v := ?_) rfl rfl (by kernel_rfl) (by kernel_rfl) (by kernel_rfl) (by rfl) ?_ (by exact hHeld) ?_
                rotate_left
                · intro w hSw; (try dsimp only at hSw); obtain ⟨m1, m2, m3, m4⟩ := hpre _ hSw; have r0 := m1.cell (i := 0) rfl; have r1 := m1.cell (i := 1) rfl; have r2 := m1.cell (i := 2) rfl; have r3 := m1.cell (i := 3) rfl; have r4 := m1.cell (i := 4) rfl; have r5 := m1.cell (i := 5) rfl; have s0 := m2.cell (i := 0) rfl; have u0 := m3.cell (i := 0) rfl; have t0 := m4.cell (i := 0) rfl; have t1 := m4.cell (i := 1) rfl; have t2 := m4.cell (i := 2) rfl; have t3 := m4.cell (i := 3) rfl; have t4 := m4.cell (i := 4) rfl; have t5 := m4.cell (i := 5) rfl; clear m1 m2 m3 m4; go_simp; try (with_reducible rfl)
                try simp only [Act.put, List.setIfInBounds_toArray, List.set_cons_zero, List.set_cons_succ]
                refine takeH 31 (some 61) (v := ?_) rfl rfl (by kernel_rfl) (by kernel_rfl) (by kernel_rfl) (by rfl) ?_ (by exact hHeld) ?_
                rotate_left
                · intro w hSw; (try dsimp only at hSw); obtain ⟨m1, m2, m3, m4⟩ := hpre _ hSw; have r0 := m1.cell (i := 0) rfl; have r1 := m1.cell (i := 1) rfl; have r2 := m1.cell (i := 2) rfl; have r3 := m1.cell (i := 3) rfl; have r4 := m1.cell (i := 4) rfl; have r5 := m1.cell (i := 5) rfl; have s0 := m2.cell (i := 0) rfl; have u0 := m3.cell (i := 0) rfl; have t0 := m4.cell (i := 0) rfl; have t1 := m4.cell (i := 1) rfl; have t2 := m4.cell (i := 2) rfl; have t3 := m4.cell (i := 3) rfl; have t4 := m4.cell (i := 4) rfl; have t5 := m4.cell (i := 5) rfl; clear m1 m2 m3 m4; go_simp; try (with_reducible rfl)
                try simp only [Act.put, List.setIfInBounds_toArray, List.set_cons_zero, List.set_cons_succ]
                refine wpAnyH_ready (rs := [30]) (by kernel_rfl) (by simp) ?_
                refine stepH 30 rfl (by rfl) (fun K hK => ?_) ?_
                · go_simp
                  ((with_reducible refine (rav_right gm x _ b HBD.out HR.out ?_).mono ?_); (exact HM1.out.keep hHeld); rintro e z30 ⟨rfl, q30⟩)
                  refine hK.out _ _ ?_ (fun hNew => ?_)
                  · (try dsimp only); first | exact below_t hHeld q4 | exact below_t hHeld q9 | exact below_t hHeld q15 | exact below_t hHeld q22 | exact below_t hHeld q24 | exact below_t hHeld q30 | exact below_t hHeld q32
                  clear hK K hHeld
                  have hHeld := hNew
                  clear hNew
                  try dsimp only at hHeld
                  try simp only [Act.put, List.setIfInBounds_toArray, List.set_cons_zero, List.set_cons_succ]
                  refine wpAnyH_ready (rs := [32]) (by kernel_rfl) (by simp) ?_
                  refine stepH 32 rfl (by rfl) (fun K hK => ?_) ?_
                  · go_simp
                    ((with_reducible refine (RDepth_any x _ HSS.out ?_).mono ?_); (exact HX1.out.keep hHeld); rintro e z32 ⟨rfl, q32⟩)
                    refine hK.out _ _ ?_ (fun hNew => ?_)
                    · (try dsimp only); first | exact below_t hHeld q4 | exact below_t hHeld q9 | exact below_t hHeld q15 | exact below_t hHeld q22 | exact below_t hHeld q24 | exact below_t hHeld q30 | exact below_t hHeld q32
                    clear hK K hHeld
                    have hHeld := hNew
                    clear hNew
                    try dsimp only at hHeld
                    try simp only [Act.put, List.setIfInBounds_toArray, List.set_cons_zero, List.set_cons_succ]
                    refine takeH 33 (some 63) (v := ?_) rfl rfl (by kernel_rfl) (by kernel_rfl) (by kernel_rfl) (by rfl) ?_ (by exact hHeld) ?_
                    rotate_left
                    · intro w hSw; (try dsimp only at hSw); obtain ⟨m1, m2, m3, m4⟩ := hpre _ hSw; have r0 := m1.cell (i := 0) rfl; have r1 := m1.cell (i := 1) rfl; have r2 := m1.cell (i := 2) rfl; have r3 := m1.cell (i := 3) rfl; have r4 := m1.cell (i := 4) rfl; have r5 := m1.cell (i := 5) rfl; have s0 := m2.cell (i := 0) rfl; have u0 := m3.cell (i := 0) rfl; have t0 := m4.cell (i := 0) rfl; have t1 := m4.cell (i := 1) rfl; have t2 := m4.cell (i := 2) rfl; have t3 := m4.cell (i := 3) rfl; have t4 := m4.cell (i := 4) rfl; have t5 := m4.cell (i := 5) rfl; clear m1 m2 m3 m4; go_simp; try (with_reducible rfl)
                    try simp only [Act.put, List.setIfInBounds_toArray, List.set_cons_zero, List.set_cons_succ]
                    refine takeH 34 (some 64) (v := ?_) rfl rfl (by kernel_rfl) (by kernel_rfl) (by kernel_rfl) (by rfl) ?_ (by exact hHeld) ?_
                    rotate_left
                    · intro w hSw; (try dsimp only at hSw); obtain ⟨m1, m2, m3, m4⟩ := hpre _ hSw; have r0 := m1.cell (i := 0) rfl; have r1 := m1.cell (i := 1) rfl; have r2 := m1.cell (i := 2) rfl; have r3 := m1.cell (i := 3) rfl; have r4 := m1.cell (i := 4) rfl; have r5 := m1.cell (i := 5) rfl; have s0 := m2.cell (i := 0) rfl; have u0 := m3.cell (i := 0) rfl; have t0 := m4.cell (i := 0) rfl; have t1 := m4.cell (i := 1) rfl; have t2 := m4.cell (i := 2) rfl; have t3 := m4.cell (i := 3) rfl; have t4 := m4.cell (i := 4) rfl; have t5 := m4.cell (i := 5) rfl; clear m1 m2 m3 m4; go_simp; try (with_reducible rfl)
                    try simp only [Act.put, List.setIfInBounds_toArray, List.set_cons_zero, List.set_cons_succ]
                    refine takeH 35 (some 65) (v := ?_) rfl rfl (by kernel_rfl) (by kernel_rfl) (by kernel_rfl) (by rfl) ?_ (by exact hHeld) ?_
                    rotate_left
                    · intro w hSw; (try dsimp only at hSw); obtain ⟨m1, m2, m3, m4⟩ := hpre _ hSw; have r0 := m1.cell (i := 0) rfl; have r1 := m1.cell (i := 1) rfl; have r2 := m1.cell (i := 2) rfl; have r3 := m1.cell (i := 3) rfl; have r4 := m1.cell (i := 4) rfl; have r5 := m1.cell (i := 5) rfl; have s0 := m2.cell (i := 0) rfl; have u0 := m3.cell (i := 0) rfl; have t0 := m4.cell (i := 0) rfl; have t1 := m4.cell (i := 1) rfl; have t2 := m4.cell (i := 2) rfl; have t3 := m4.cell (i := 3) rfl; have t4 := m4.cell (i := 4) rfl; have t5 := m4.cell (i := 5) rfl; clear m1 m2 m3 m4; go_simp; try (with_reducible rfl)
                    try simp only [Act.put, List.setIfInBounds_toArray, List.set_cons_zero, List.set_cons_succ]
                    refine takeH 36 (some 2) (v := ?_) rfl rfl (by kernel_rfl) (by kernel_rfl) (by kernel_rfl) (by rfl) ?_ (by exact hHeld) ?_
                    rotate_left
                    · intro w hSw; (try dsimp only at hSw); obtain ⟨m1, m2, m3, m4⟩ := hpre _ hSw; have r0 := m1.cell (i := 0) rfl; have r1 := m1.cell (i := 1) rfl; have r2 := m1.cell (i := 2) rfl; have r3 := m1.cell (i := 3) rfl; have r4 := m1.cell (i := 4) rfl; have r5 := m1.cell (i := 5) rfl; have s0 := m2.cell (i := 0) rfl; have u0 := m3.cell (i := 0) rfl; have t0 := m4.cell (i := 0) rfl; have t1 := m4.cell (i := 1) rfl; have t2 := m4.cell (i := 2) rfl; have t3 := m4.cell (i := 3) rfl; have t4 := m4.cell (i := 4) rfl; have t5 := m4.cell (i := 5) rfl; clear m1 m2 m3 m4; go_simp; try (with_reducible rfl)
                    try simp only [Act.put, List.setIfInBounds_toArray, List.set_cons_zero, List.set_cons_succ]
                    refine wpAnyH_done (by kernel_rfl) ?_ _
                    refine NoPanic.normal ?_
                    have HFin := Lib.hid (below_t HLZ.out hHeld)
                    have HDz := Lib.hid ((hHeld.block D (Array.getElem?_eq_some_iff.1 HKD.out).1).trans HKD.out)
                    clear hHeld q4 q9 q15 q22 q24 q30 q32 hpre
                    go_wp2_with fail
                    refine ⟨by simp, .inl ⟨_, _, rfl, run_takeDeferred HDz.out, ?_⟩⟩
                    refine ⟨_, results_tmp rfl _ _ _, ?_, HFin.out.grown (grownBy_putObj' _ _ _) HFin.out.size (fun r e => by cases e; exact HDL.out)⟩
                    show Ending.returned (.bool (b == decide ((depthT x : Int) < 100))) = _
                    rw [HBD.out]
                    simp
                  exact AllReadyH.nil
                exact AllReadyH.nil
              exact AllReadyH.nil
            exact AllReadyH.nil
          exact AllReadyH.nil
        exact AllReadyH.nil
      exact AllReadyH.nil
    case stop =>
      rintro D c pre V _ _ _ hf _
      exact hf.elim
end Go.Proofs.Ytjehgcmcphgofaa
