/- tree.Names: its contract. No condition beyond what each says. -/
import Derived.Test.YtjehgcmcphgofaaTr22
namespace Go.Proofs.Ytjehgcmcphgofaa
open Go.RowKit Go.Shelf
set_option linter.unusedVariables false
set_option linter.unusedSimpArgs false
attribute [local go_sem] Oper.semAt_some

/-- the three boxes -/
theorem names_boxes (w : World) (d : TD) : ∃ W1 W2 X B, X = w.heap.size + 1 ∧ B = w.heap.size + 2 ∧ (w.alloc (.cells #[.int .i64 d.kind, .int .i64 d.fn, .int .i64 d.axis, .string d.name, .slice d.np d.nums.length d.nc, .slice d.kp d.n d.kc] 25)).alloc (.cells #[.slice none 0 0] 35) = W1 ∧ W1.alloc (.cells #[.int .i64 d.kind, .int .i64 d.fn, .int .i64 d.axis, .string d.name, .slice d.np d.nums.length d.nc, .slice d.kp d.n d.kc] 25) = W2 ∧ W1.heap.size = B ∧
    Own W2 X 35 [.slice none 0 0] ∧ Own W2 B 25 [.int .i64 d.kind, .int .i64 d.fn, .int .i64 d.axis, .string d.name, .slice d.np d.nums.length d.nc, .slice d.kp d.n d.kc] ∧ Below w.heap.size w W2 ∧ W2.heap.size = w.heap.size + 3 := by
  refine ⟨_, _, _, _, rfl, rfl, rfl, rfl, by simp, ?_, ?_, ?_, by simp⟩
  · exact (Own.made _ _ [_] _ (by simp)).keep (below_alloc _ _) (by simp)
  · exact Own.made _ _ [.int .i64 d.kind, .int .i64 d.fn, .int .i64 d.axis, .string d.name, .slice d.np d.nums.length d.nc, .slice d.kp d.n d.kc] _ (by simp)
  · exact below_t (below_t (below_alloc _ _) (below_alloc _ _)) (below_alloc _ _)
theorem addN_no {acc : List ByteArray} {x : TV} (h : ¬ x.d.kind = 2) : addN acc x = acc := by unfold addN; rw [if_neg]; exact fun hh => h hh.1
theorem addN_has {acc : List ByteArray} {x : TV} (h : hasN acc x.d.name = true) : addN acc x = acc := by unfold addN; rw [if_neg]; exact fun hh => by rw [h] at hh; cases hh.2
theorem addN_new {acc : List ByteArray} {x : TV} (h : x.d.kind = 2) (h' : hasN acc x.d.name = false) : addN acc x = acc ++ [x.d.name] := by unfold addN; rw [if_pos ⟨h, h'⟩]

set_option maxRecDepth 100000 in
set_option maxHeartbeats 4000000 in
theorem Names_any (t : TV) (hs : sizeT t ≤ 1000000) (w : World) (h : TreeIn w t) :
    Calls Try.prog 21 #[.agg #[.int .i64 t.d.kind, .int .i64 t.d.fn, .int .i64 t.d.axis, .string t.d.name, .slice t.d.np t.d.nums.length t.d.nc, .slice t.d.kp t.d.n t.d.kc]] w fun e w' => ∃ p c, e = .returned (.slice p (namesL (stepsT t)).length c) ∧ Texts w' p (namesL (stepsT t)) ∧ New w.heap.size w' p 9 ((namesL (stepsT t)).map .string) ∧ Below w.heap.size w w' := by
  obtain ⟨W1, W2, X, B, hX, hB, hW1, hW2, hWB, oX, oB, hb, hN⟩ := names_boxes w t.d
  obtain ⟨N, hNN⟩ : ∃ N, W2.heap.size = N := ⟨_, rfl⟩
  have HI0 : Hid (NamI w X W2.heap.size [] W2 (.slice none 0 0)) := ⟨oX, World.ownsRow_nil _ _ _ _, hb, by omega, Nat.le_refl _⟩
  have HS := Lib.hid hs
  have HB := Lib.hid hb
  have HO := Lib.hid oB
  have HW1 := Lib.hid hW1
  have HW2 := Lib.hid hW2
  have HWB := Lib.hid hWB
  have HX : Hid (X = w.heap.size + 1 ∧ B = w.heap.size + 2 ∧ W2.heap.size = w.heap.size + 3) := ⟨hX, hB, hN⟩
  have HX' := Lib.hid hX
  have HT := Lib.hid h
  clear hs hb oX oB hW1 hW2 hWB hX hB hN hNN N h
  refine (callsIn_wide (n := 4)).1 ?_
  refine callsIn_of_wp_marks Try.func21 rfl trivial ?_ rfl
  simp only [Try.ntmps21, List.size_toArray, List.length_cons, List.length_nil, Nat.reduceAdd, Nat.reduceSub, Array.replicate_succ, Array.replicate_zero, List.push_toArray, List.append_toArray, List.nil_append, List.cons_append]
  gi_wp2
  rw [HW1.out, ← HX'.out]
  refine ⟨trivial, (callsIn_wide.2 (Steps_any t.d W1)).mono ?_⟩
  rintro e1 w1 ⟨rfl, rfl⟩
  rw [HW2.out, HWB.out]
  clear HW1 HW2 HWB HX'
  gi_wp2
  refine wpIn_range_steps w t HT.out HB.out B HO.out rfl rfl
    (fun pre W => ∃ v, NamI w X W2.heap.size (namesL pre) W v) (fun _ _ _ => False) NamI.abides (fun _ _ _ _ _ h _ _ => h) ⟨_, HI0.out⟩
    (fun x a' V => ∃ Bk, W2.heap.size ≤ Bk ∧ Own V Bk 25 [.int .i64 x.d.kind, .int .i64 x.d.fn, .int .i64 x.d.axis, .string x.d.name, .slice x.d.np x.d.nums.length x.d.nc, .slice x.d.kp x.d.n x.d.kc] ∧ a' = { tmps := #[.agg #[.int .i64 t.d.kind, .int .i64 t.d.fn, .int .i64 t.d.axis, .string t.d.name, .slice t.d.np t.d.nums.length t.d.nc, .slice t.d.kp t.d.n t.d.kc], .pointer (some ⟨w.heap.size, 0, none⟩), .slice none 0 0, .pointer (some ⟨X, 0, none⟩), .pointer (some ⟨Bk, 0, none⟩), .agg #[.int .i64 t.d.kind, .int .i64 t.d.fn, .int .i64 t.d.axis, .string t.d.name, .slice t.d.np t.d.nums.length t.d.nc, .slice t.d.kp t.d.n t.d.kc], .func (.func 35) #[] #[.pointer (some ⟨B, 0, none⟩)], .agg #[.int .i64 x.d.kind, .int .i64 x.d.fn, .int .i64 x.d.axis, .string x.d.name, .slice x.d.np x.d.nums.length x.d.nc, .slice x.d.kp x.d.n x.d.kc], undef, undef, undef, undef, undef, undef, undef, undef, undef, undef, undef, undef, undef, undef, undef, undef], defers := [] }) ?ax ?assign ?body ?done ?stop
  case ax =>
    rintro x a' V o o' ⟨Bk, hBk, ho, e⟩ hl hc
    refine ⟨Bk, hBk, ho.grown (grownBy_putObj' _ _ _) fun e => ?_, e⟩
    cases e
    obtain ⟨r, h'⟩ := ho
    rw [h'] at hl
    cases hl
    cases hc
  case assign =>
    intro l' pre x V K hI hK
    have HK := Lib.hid hK
    have HI := Lib.hid hI
    clear hK hI
    gi_wp2
    have hI := HI.out
    have hx := HX.out
    obtain ⟨v, hv⟩ := hI
    have hvz := hv.hz
    exact HK.out _ _ (KpS.of (below_alloc _ _) hv.below.size) ⟨v, hv.keep (below_alloc _ _)⟩ ⟨V.heap.size, hvz, Own.made V _ [.int .i64 x.d.kind, .int .i64 x.d.fn, .int .i64 x.d.axis, .string x.d.name, .slice x.d.np x.d.nums.length x.d.nc, .slice x.d.kp x.d.n x.d.kc] _ rfl, rfl⟩
  case body =>
    rintro l' pre x a' V rfl ⟨r, hr⟩ ⟨v, hv⟩ ⟨Bk, hBk, hoK, rfl⟩ hmap
    have hlen : (namesL pre).length ≤ 1000000 := by
      have h1 := namesL_len pre
      have h2 := congrArg List.length hmap
      have h3 := HS.out
      rw [← stepsT_len] at h3
      simp at h2
      omega
    have h0 := hoK.cell (i := 0) rfl
    have h3 := hoK.cell (i := 3) rfl
    have hkey := (namesL_snoc pre x)
    by_cases hk : x.d.kind = 2
    rotate_left
    · have ek : (x.d.kind == 2) = false := by rw [beq_eq_false_iff_ne]; exact hk
      have HV : Hid (KpS w.heap.size (fun k => W2.heap.size ≤ k) V V ∧ ∃ v, NamI w X W2.heap.size (namesL (pre ++ [x])) V v) := ⟨KpS.refl _ _ _, v, by rw [hkey, addN_no hk]; exact hv⟩
      clear hk hkey hlen h3 hmap hv hr hoK hBk
      gi_wp2
      refine ⟨trivial, ?_⟩
      gi_wp2
      exact HV.out
    · have ek : (x.d.kind == 2) = true := by rw [beq_iff_eq]; exact hk
      obtain ⟨p, c, rfl, hTx⟩ := hv.texts (by omega)
      have hXc := hv.box.cell (i := 0) rfl
      cases hh : hasN (namesL pre) x.d.name with
      | true =>
        have HV : Hid (KpS w.heap.size (fun k => W2.heap.size ≤ k) V V ∧ ∃ v, NamI w X W2.heap.size (namesL (pre ++ [x])) V v) := ⟨KpS.refl _ _ _, _, by rw [hkey, addN_has hh]; exact hv⟩
        have HC := Lib.hid (ContainsT_any x.d.name p c (namesL pre) _ rfl _ hh V hTx)
        clear hk hkey hlen hmap hv hr hoK hBk hTx hh
        gi_wp2
        refine ⟨trivial, (CallsIn.inRound _ (callsIn_wide.2 HC.out)).mono ?_⟩
        rintro e1 V1 ⟨rfl, rfl⟩
        gi_wp2
        exact HV.out
      | false =>
        have HKey : Hid (namesL (pre ++ [x]) = namesL pre ++ [x.d.name]) := by rw [Hid, hkey, addN_new hk hh]
        have HC := Lib.hid (ContainsT_any x.d.name p c (namesL pre) _ rfl _ hh V hTx)
        have HNV := Lib.hid hv
        have hrow := hv.row
        obtain ⟨i0, hi0, hz0, hz1, hz2⟩ := info_parts info_str
        clear hk hkey hmap hv hr hoK hBk hTx hh
        gi_wp2
        refine ⟨trivial, (CallsIn.inRound _ (callsIn_wide.2 HC.out)).mono ?_⟩
        rintro e1 V1 ⟨rfl, rfl⟩
        have hvz := HNV.out.hz
        gi_wp2_with (gi_at_builtin; refine wpListIn_append_own _ rfl _ _ 35 rfl W2.heap.size 9 i0 (.string ⟨#[]⟩) 1 16 Try.underlying35 hi0 hz0 hz1 hz2 rfl (by decide) _ _ _ rfl (hrow.alloc _) ⟨V.heap.size, 0, none⟩ 1 1 [.string x.d.name] rfl rfl (cell_one_new _ _ _) (by simp [Value.oneCell']) (by unfold maxLen; omega) (by omega) (by simp; omega) ?_; intro v' z hown' hgrow _; obtain ⟨g', cap', rfl⟩ := ownsRow_succ hown'; have HNX := Lib.hid (HNV.out.next hgrow hown'); have hcz := HNX.out.1.cell (i := 0) rfl; have hfz := HNX.out.1.frozen 0)
        exact ⟨HNX.out.2.2, _, by rw [HKey.out]; exact HNX.out.2.1⟩
  case done =>
    rintro D V hD ⟨v, hv⟩ hK
    have hlen : (namesL (stepsT t)).length ≤ 9223372036854775807 := by
      have h1 := namesL_len (stepsT t)
      have h3 := HS.out
      rw [← stepsT_len] at h3
      omega
    have hcell := hv.box.cell (i := 0) rfl
    have hv2 := hv.turn (grownBy_putObj' V D (.deferred none)) (fun r e => by cases e; exact ⟨hD, fun o ho => by rw [hK] at ho; cases ho; exact noTexts_other rfl⟩)
    obtain ⟨p, c, rfl, hnw⟩ := row_new hv2.row
    rw [List.length_map] at hcell
    have HTX : Hid (Texts (V.putObj D (.deferred none)) p (namesL (stepsT t)) ∧ New w.heap.size (V.putObj D (.deferred none)) p 9 ((namesL (stepsT t)).map .string)) := ⟨⟨hnw.cells, hlen⟩, hnw.mono (by have := HX.out; omega)⟩
    have HV2 := Lib.hid hv2
    have HKK := Lib.hid hK
    clear hv hv2 hnw hlen hK hD
    gi_wp2
    refine ⟨by simp, .inl ⟨_, _, rfl, run_takeDeferred HKK.out, ?_⟩⟩
    exact ⟨_, results_tmp rfl _ _ _, p, c, rfl, HTX.out.1, HTX.out.2, HV2.out.below⟩
  case stop =>
    rintro D c pre V _ _ _ hf _
    exact hf.elim
end Go.Proofs.Ytjehgcmcphgofaa
