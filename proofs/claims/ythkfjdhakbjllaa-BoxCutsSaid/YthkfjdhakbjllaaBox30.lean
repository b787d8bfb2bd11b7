/- What is left of a box without another one that it meets, in the reference. No condition beyond what each says. -/
import Derived.Test.YthkfjdhakbjllaaBox29
namespace Go.Proofs.Ythkfjdhakbjllaa
open Go.RowKit Go.Shelf
set_option linter.unusedVariables false
set_option linter.unusedSimpArgs false

theorem new_set (w : World) (a : Addr) (v : Value) (o : Obj) : ((w.setCell a v).alloc o).heap[w.heap.size]? = some o := by
  have h := heap_alloc_new (w.setCell a v) o
  rwa [show (w.setCell a v).heap.size = w.heap.size by simp] at h
theorem cutX_i64 {alo ahi clo chi : List Int} {n k : Nat} {sd : Bool} (e1 : alo.length = n) (e2 : ahi.length = n) (e3 : clo.length = n) (e4 : chi.length = n) (hk : k < n) (i1 : ∀ x ∈ alo, I64 x) (i2 : ∀ x ∈ ahi, I64 x) (i3 : ∀ x ∈ clo, I64 x) (i4 : ∀ x ∈ chi, I64 x) :
    (∀ x ∈ (cutX alo ahi clo chi k sd).1, I64 x) ∧ (∀ x ∈ (cutX alo ahi clo chi k sd).2, I64 x) := by
  have m1 := i1 _ (nth_mem (xs := alo) (k := k) (by omega))
  have m2 := i2 _ (nth_mem (xs := ahi) (k := k) (by omega))
  have m3 := i3 _ (nth_mem (xs := clo) (k := k) (by omega))
  have m4 := i4 _ (nth_mem (xs := chi) (k := k) (by omega))
  unfold cutX
  refine ⟨fun x hx => ?_, fun x hx => ?_⟩
  · rcases List.mem_append.1 hx with hx | hx
    · exact i3 x (List.mem_of_mem_take hx)
    · rcases List.mem_cons.1 hx with hx | hx
      · rw [hx]; split <;> assumption
      · exact i1 x (List.mem_of_mem_drop hx)
  · rcases List.mem_append.1 hx with hx | hx
    · exact i4 x (List.mem_of_mem_take hx)
    · rcases List.mem_cons.1 hx with hx | hx
      · rw [hx]; split <;> assumption
      · exact i2 x (List.mem_of_mem_drop hx)
theorem cutsX_mem {alo ahi clo chi : List Int} {n : Nat} {x : Bx} (hx : x ∈ cutsX alo ahi clo chi n) : ∃ k sd, k < n ∧ x = cutX alo ahi clo chi k sd := by
  unfold cutsX at hx
  obtain ⟨k, hk, hx⟩ := List.mem_flatMap.1 hx
  have hx := (List.mem_filter.1 hx).1
  rw [List.mem_range] at hk
  simp only [List.mem_cons, List.not_mem_nil, or_false] at hx
  rcases hx with rfl | rfl
  · exact ⟨k, false, hk, rfl⟩
  · exact ⟨k, true, hk, rfl⟩
theorem boxes_newR {w : World} {B : Nat} {v : Value} {bs : List BoxV} (h : w.ownsRow B 65 2 v bs.length (flatB bs)) : ∃ q cap, v = .slice q bs.length cap ∧ New B w q 65 (flatB bs) := by
  obtain ⟨h1, h2⟩ := h
  rcases h2 with ⟨rfl, h0⟩ | ⟨g, cap, cur, rfl, hb, hg, -, -, -, ht⟩
  · have : bs = [] := List.eq_nil_of_length_eq_zero h0
    subst this
    exact ⟨none, 0, rfl, .inl rfl⟩
  · refine ⟨some ⟨g, 0, none⟩, cap, rfl, .inr ⟨g, rfl, hb, cur.toList.drop (bs.length * 2), ?_⟩⟩
    rw [hg]
    have e : flatB bs ++ cur.toList.drop (bs.length * 2) = cur.toList := by
      conv => lhs; lhs; rw [← ht]
      exact List.take_append_drop _ _
    rw [e]

set_option maxRecDepth 100000 in
set_option maxHeartbeats 4000000 in
theorem RefMinus_yes (p q p' q' : Option Addr) (c f c' f' : Nat) (alo ahi blo bhi : List Int) (n m : Nat) (e1 : alo.length = n) (e2 : ahi.length = n) (e3 : blo.length = m) (e4 : bhi.length = m) (hl : n ≤ 1000) (hm : Meets alo ahi blo bhi)
    (w : World) (h1 : Ints w p alo) (h2 : Ints w q ahi) (h3 : Ints w p' blo) (h4 : Ints w q' bhi) :
    Calls Try.prog 62 #[.agg #[.slice p n c, .slice q n f], .agg #[.slice p' m c', .slice q' m f']] w (RefMinusRet alo ahi blo bhi w) := by
  obtain ⟨W, hW, hz, hbW, OA, OB⟩ : ∃ W, (w.alloc (.cells #[.slice p n c, .slice q n f] 65)).alloc (.cells #[.slice p' m c', .slice q' m f'] 65) = W ∧ W.heap.size = w.heap.size + 2 ∧ Below w.heap.size w W ∧ Own W w.heap.size 65 [.slice p n c, .slice q n f] ∧ Own W (w.heap.size + 1) 65 [.slice p' m c', .slice q' m f'] := by
    have b1 := below_alloc w (.cells #[.slice p n c, .slice q n f] 65)
    have OA := Own.made w w.heap.size [.slice p n c, .slice q n f] 65 rfl
    have b2 := below_alloc (w.alloc (.cells #[.slice p n c, .slice q n f] 65)) (.cells #[.slice p' m c', .slice q' m f'] 65)
    exact ⟨_, rfl, by simp, below_t b1 b2, OA.keep b2 OA.lt, Own.made _ (w.heap.size + 1) [.slice p' m c', .slice q' m f'] 65 (by simp)⟩
  have HW := Lib.hid hW
  have ha : alo.length = ahi.length := by omega
  have hb0 : blo.length = bhi.length := by omega
  have hf : FullX alo ahi := fun j hj => by
    have := cuts_range ha hb0 hm j hj
    omega
  have lc1 : (meetLo alo blo).length = n := by rw [meetLo_len hm.1]; exact e1
  have lc2 : (meetHi ahi bhi).length = n := by rw [meetHi_len (by have := hm.1; omega)]; exact e2
  have ic1 : Hid (∀ x ∈ meetLo alo blo, I64 x) := mix_i64 (op := mxI) mxI_or h1.i64 h3.i64
  have ic2 : Hid (∀ x ∈ meetHi ahi bhi, I64 x) := mix_i64 (op := mnI) mnI_or h2.i64 h4.i64
  have hE : Hid (Calls Try.prog 94 #[.agg #[.slice p n c, .slice q n f]] W fun e w' => e = .returned (.bool false) ∧ Below W.heap.size W w') := by
    have := RefEmpty_any p q c f alo ahi false (by simpa using hf) (by omega) W (h1.keep hbW) (h2.keep hbW)
    rwa [e1, e2] at this
  have hX : Hid (∀ w5, Below W.heap.size W w5 → Calls Try.prog 55 #[.agg #[.slice p n c, .slice q n f], .agg #[.slice p' m c', .slice q' m f']] w5 fun e w' => (∃ pc cc qc fc, e = .returned (.tuple #[.agg #[.slice pc n cc, .slice qc n fc], .bool true]) ∧ New w5.heap.size w' pc 3 ((meetLo alo blo).map (.int .i64)) ∧ New w5.heap.size w' qc 3 ((meetHi ahi bhi).map (.int .i64))) ∧ Below w5.heap.size w5 w') := by
    intro w5 hb5
    have hb := below_t hbW hb5
    have := RefMeet_all p q p' q' c f c' f' alo ahi blo bhi (by omega) (by omega) (by omega) w5 (h1.keep hb) (h2.keep hb) (h3.keep hb) (h4.keep hb)
    rw [e1, e2, e3, e4] at this
    refine this.mono ?_
    rintro e w' ⟨hr, hbw⟩
    rw [if_pos hm, lc1, lc2] at hr
    obtain ⟨pc, cc, qc, fc, he, k1, k2⟩ := hr
    exact ⟨⟨pc, cc, qc, fc, he, k1, k2⟩, hbw⟩
  have HVAL : Hid (cutsX alo ahi (meetLo alo blo) (meetHi ahi bhi) n = minusX alo ahi blo bhi) := by
    rw [Hid]
    unfold minusX
    rw [if_neg (not_not_intro hf), if_pos hm, e1]
  obtain ⟨clo, hclo⟩ : ∃ clo, meetLo alo blo = clo := ⟨_, rfl⟩
  obtain ⟨chi, hchi⟩ : ∃ chi, meetHi ahi bhi = chi := ⟨_, rfl⟩
  rw [hclo] at lc1 ic1 hX HVAL
  rw [hchi] at lc2 ic2 hX HVAL
  have E1 := Lib.hid e1
  have E2 := Lib.hid e2
  have LC1 := Lib.hid lc1
  have LC2 := Lib.hid lc2
  have q0 := OA.cell (i := 0) rfl
  have q1 := OA.cell (i := 1) rfl
  clear hW hf hm e1 e2 e3 e4 ha hb0 hclo hchi lc1 lc2
  go_enter Try.func62, Try.ntmps62
  go_wp2_with fail
  rw [HW.out]
  refine hE.out.mono ?_
  rintro e5 w5 ⟨rfl, hb5⟩
  have OA5 := OA.keep hb5 OA.lt
  have OB5 := OB.keep hb5 OB.lt
  have r0 := OA5.cell (i := 0) rfl
  have r1 := OA5.cell (i := 1) rfl
  have s0 := OB5.cell (i := 0) rfl
  have s1 := OB5.cell (i := 1) rfl
  clear hE HW q0 q1 OA OB
  go_wp2_with fail
  refine (hX.out w5 hb5).mono ?_
  rintro e6 w6 ⟨⟨pc, cc, qc, fc, rfl, k1, k2⟩, hb6⟩
  have OA6 := OA5.keep hb6 OA5.lt
  have hz5 := hb5.size
  have hz6 := hb6.size
  have hb := below_t hbW (below_t hb5 hb6)
  have b7 := below_alloc w6 (.cells #[.slice pc n cc, .slice qc n fc] 65)
  obtain ⟨W7, hW7⟩ : ∃ W7, w6.alloc (.cells #[.slice pc n cc, .slice qc n fc] 65) = W7 := ⟨_, rfl⟩
  have z7 : W7.heap.size = w6.heap.size + 1 := by rw [← hW7]; simp
  have OC : Own W7 w6.heap.size 65 [.slice pc n cc, .slice qc n fc] := hW7 ▸ Own.made w6 w6.heap.size [.slice pc n cc, .slice qc n fc] 65 rfl
  rw [hW7] at b7
  have HST : Hid (MinR w (w6.heap.size + 1) n (.slice p n c) (.slice q n f) w6.heap.size pc qc cc fc clo chi (cutsX alo ahi clo chi 0) (.slice none 0 0) [] W7) :=
    ⟨OA6.keep b7 OA6.lt, OC, (k1.keep' b7).mono (by omega), (k2.keep' b7).mono (by omega), World.ownsRow_nil _ _ _ _, (fun x hx => by cases hx), (by simp [cutsX]), below_t hb b7, by omega, ⟨by omega, by omega⟩⟩
  have HW7 := Lib.hid hW7
  clear hX r0 r1 s0 s1 OA5 OB5 OA6 hb5 hb6 hbW b7 OC z7 hz5 hz6 k1 k2 hb hW7
  go_wp2_with fail
  rw [HW7.out]
  clear HW7
  rename World => W7
  go_loopw [7, 8] (fun o i wr => ∃ (k : Nat) (v : Value) (bs : List BoxV), k ≤ n ∧ o = v ∧ i = .int .i64 k ∧ Hid (bs.length ≤ 2 * k) ∧ Hid (MinR w (w6.heap.size + 1) n (.slice p n c) (.slice q n f) w6.heap.size pc qc cc fc clo chi (cutsX alo ahi clo chi k) v bs wr)) (fun _ i _ => n - (intOf i).toNat)
  case atStart => exact ⟨0, _, [], Nat.zero_le _, rfl, rfl, Nat.zero_le _, HST⟩
  case round =>
    obtain ⟨k, v, bs, hk, rfl, rfl, HBL, HS⟩ := hrel
    clear HST
    have a0 := HS.out.a.cell (i := 0) rfl
    by_cases hlt : k < n
    · have hi1 : (k : Int) < (n : Int) := by omega
      go_wp2_with fail
      clear a0
      rename World => W8
      go_loopw [7, 9] (fun o i wr => ∃ (sd : Nat) (v : Value) (bs : List BoxV), sd ≤ 2 ∧ o = v ∧ i = .int .i64 sd ∧ Hid (bs.length ≤ 2 * k + sd) ∧ Hid (MinR w (w6.heap.size + 1) n (.slice p n c) (.slice q n f) w6.heap.size pc qc cc fc clo chi (sideX alo ahi clo chi k sd) v bs wr)) (fun _ i _ => 2 - (intOf i).toNat)
      case atStart => exact ⟨0, _, bs, Nat.zero_le _, rfl, rfl, HBL, by rw [sideX_zero]; exact HS⟩
      case round =>
        obtain ⟨sd, v, bs, hsd, rfl, rfl, HBL, HS⟩ := hrel
        by_cases hs2 : sd < 2
        · have hi2 : (sd : Int) < 2 := by omega
          rename World => W9
          obtain ⟨hLl, hHl⟩ := cutX_lens (sd := decide (sd = 1)) E1.out E2.out LC1.out LC2.out hlt
          have HNT : Hid (∀ j, j < n → nth (cutX alo ahi clo chi k (decide (sd = 1))).1 j = (if j < k then nth clo j else if j = k then (if decide (sd = 1) then nth chi k else nth alo k) else nth alo j) ∧ nth (cutX alo ahi clo chi k (decide (sd = 1))).2 j = (if j < k then nth chi j else if j = k then (if decide (sd = 1) then nth ahi k else nth clo k) else nth ahi j)) := fun j hj => cutX_nths E1.out E2.out LC1.out LC2.out hlt hj
          obtain ⟨X, hX⟩ : ∃ X, cutX alo ahi clo chi k (decide (sd = 1)) = X := ⟨_, rfl⟩
          rw [hX] at hLl hHl HNT
          have HXX := Lib.hid hX
          have HL1 := Lib.hid hLl
          have HL2 := Lib.hid hHl
          clear hX hLl hHl
          go_wp2_with fail
          go_loopw [11] (fun i wz => ∃ (j : Nat) (v1 v2 : Value), j ≤ n ∧ i = .int .i64 j ∧ Hid (CutSt W9 X.1 X.2 j j v1 v2 wz)) (fun i _ => n - (intOf i).toNat)
          case atStart => exact ⟨0, _, _, Nat.zero_le _, rfl, CutSt.start _ _ _⟩
          case round =>
            obtain ⟨j, v1, v2, hj, rfl, HC⟩ := hrel
            have HK := Lib.hid (HS.out.keep HC.out.below)
            have a0 := HK.out.a.cell (i := 0) rfl
            by_cases hjl : j < n
            · have hi3 : (j : Int) < (n : Int) := by omega
              have la1 : j < alo.length := by have := E1.out; omega
              have la2 : j < ahi.length := by have := E2.out; omega
              have lk1 : j < clo.length := by have := LC1.out; omega
              have lk2 : j < chi.length := by have := LC2.out; omega
              obtain ⟨ba, oa, rfl, hba, ca⟩ := h1.at la1
              obtain ⟨bb, ob, rfl, hbb, cb⟩ := h2.at la2
              obtain ⟨gc, rfl, hgc, oc⟩ := HK.out.cl.out (ne_nil_of LC1.out (by omega))
              obtain ⟨gd, rfl, hgd, od⟩ := HK.out.ch.out (ne_nil_of LC2.out (by omega))
              have hnt := HNT.out j hjl
              have hlL : j < X.1.length := by rw [HL1.out]; exact hjl
              have hlH : j < X.2.length := by rw [HL2.out]; exact hjl
              have hbw := HK.out.below
              have ca := (hbw.cell (p := ⟨ba, oa + j, none⟩) hba).trans ca
              have cb := (hbw.cell (p := ⟨bb, ob + j, none⟩) hbb).trans cb
              have cc' : wr.cell? ⟨gc, j, none⟩ = some (.int .i64 (nth clo j)) := oc.cell (by rw [List.getElem?_map, nth_get? lk1]; rfl)
              have cd' : wr.cell? ⟨gd, j, none⟩ = some (.int .i64 (nth chi j)) := od.cell (by rw [List.getElem?_map, nth_get? lk2]; rfl)
              have a1 := HK.out.a.cell (i := 1) rfl
              have c0 := HK.out.cv.cell (i := 0) rfl
              have c1 := HK.out.cv.cell (i := 1) rfl
              have x0 := HC.out.x.cell (i := 0) rfl
              obtain ⟨xa, hxa⟩ : ∃ x, nth alo j = x := ⟨_, rfl⟩
              obtain ⟨ya, hya⟩ : ∃ x, nth ahi j = x := ⟨_, rfl⟩
              obtain ⟨xc, hxc⟩ : ∃ x, nth clo j = x := ⟨_, rfl⟩
              obtain ⟨yc, hyc⟩ : ∃ x, nth chi j = x := ⟨_, rfl⟩
              rw [hxa] at ca
              rw [hya] at cb
              rw [hxc] at cc'
              rw [hyc] at cd'
              have HDR : Hid (∀ z, Below wr.heap.size wr z → CutSt W9 X.1 X.2 j j v1 v2 z) := fun z hz => HC.out.keep hz
              have hsz := HC.out.size
              have hjm : j ≤ 1000000 := by omega
              clear oc od hbw
              by_cases hjk : j < k
              · have hi4 : (j : Int) < (k : Int) := by omega
                have hi5 : ((j : Int) == (k : Int)) = false := by simp; omega
                have HX : Hid (nth X.1 j = xc) := by rw [Hid, hnt.1, if_pos hjk]; exact hxc
                have HY : Hid (nth X.2 j = yc) := by rw [Hid, hnt.2, if_pos hjk]; exact hyc
                clear hnt hxa hya hxc hyc
                go_wp2_with fail
                go_quiet (fail)
                go_wp2_with fail
                go_quiet (fail)
                go_wp2_with (first
                  | (at_builtin; refine append_lone rfl (.tmp 92) (.tmp 94) rfl (W9.heap.size + 1) v1 j _ rfl (((HDR.out _ (by first | exact Below.refl _ _ | exact below_drewN _ _ _ | exact below_t (below_drewN _ _ _) (below_drewN _ _ _))).two.r1).alloc _) _ xc rfl (heap_alloc_new _ _) hjm (by simp; omega) ?_; intro g5 cap5 w5 hown5 hgrow5 hat5; have M5 := Lib.hid ((HDR.out _ (by first | exact Below.refl _ _ | exact below_drewN _ _ _ | exact below_t (below_drewN _ _ _) (below_drewN _ _ _))).next1 hlL HX.out hgrow5 hown5 hat5); have m5 := (HDR.out _ (by first | exact Below.refl _ _ | exact below_drewN _ _ _ | exact below_t (below_drewN _ _ _) (below_drewN _ _ _))).mid hgrow5 (.inl rfl); have f5 := m5.frozen 0; have c5 := m5.cell (i := 0) rfl; have y1 := M5.out.x.cell (i := 1) rfl; clear m5 hown5 hgrow5 hat5)
                  | (at_builtin; go_loud (refine append_lone rfl (.tmp 98) (.tmp 100) rfl (W9.heap.size + 1) v2 j _ rfl (M5.out.two.r2.alloc _) _ yc rfl (new_set _ _ _ _) hjm (by have := M5.out.size; simp at this ⊢; omega) ?_; intro g6 cap6 w6 hown6 hgrow6 hat6; have M6 := Lib.hid (M5.out.next2 hlH HY.out hgrow6 hown6 hat6); have m6 := M5.out.mid hgrow6 (.inr rfl); have f6 := m6.frozen 1; have c6 := m6.cell (i := 1) rfl; clear m6 hown6 hgrow6 hat6)))
                go_roundw
                case rel => exact ⟨j + 1, _, _, by omega, by go_num, M6⟩
                case measure => simp [intOf]; omega
              · have hi4 : ¬ (j : Int) < (k : Int) := by omega
                by_cases hje : j = k
                · subst hje
                  obtain rfl | rfl : sd = 0 ∨ sd = 1 := by omega
                  · have HX : Hid (nth X.1 j = xa) := by rw [Hid, hnt.1, if_neg (Nat.lt_irrefl j), if_pos rfl]; exact hxa
                    have HY : Hid (nth X.2 j = xc) := by rw [Hid, hnt.2, if_neg (Nat.lt_irrefl j), if_pos rfl]; exact hxc
                    clear hnt hxa hya hxc hyc
                    go_wp2_with fail
                    go_quiet (fail)
                    go_wp2_with (first
                      | (at_builtin; refine append_lone rfl (.tmp 92) (.tmp 94) rfl (W9.heap.size + 1) v1 j _ rfl (((HDR.out _ (by first | exact Below.refl _ _ | exact below_drewN _ _ _ | exact below_t (below_drewN _ _ _) (below_drewN _ _ _))).two.r1).alloc _) _ xa rfl (heap_alloc_new _ _) hjm (by simp; omega) ?_; intro g5 cap5 w5 hown5 hgrow5 hat5; have M5 := Lib.hid ((HDR.out _ (by first | exact Below.refl _ _ | exact below_drewN _ _ _ | exact below_t (below_drewN _ _ _) (below_drewN _ _ _))).next1 hlL HX.out hgrow5 hown5 hat5); have m5 := (HDR.out _ (by first | exact Below.refl _ _ | exact below_drewN _ _ _ | exact below_t (below_drewN _ _ _) (below_drewN _ _ _))).mid hgrow5 (.inl rfl); have f5 := m5.frozen 0; have c5 := m5.cell (i := 0) rfl; have y1 := M5.out.x.cell (i := 1) rfl; clear m5 hown5 hgrow5 hat5)
                      | (at_builtin; go_loud (refine append_lone rfl (.tmp 98) (.tmp 100) rfl (W9.heap.size + 1) v2 j _ rfl (M5.out.two.r2.alloc _) _ xc rfl (new_set _ _ _ _) hjm (by have := M5.out.size; simp at this ⊢; omega) ?_; intro g6 cap6 w6 hown6 hgrow6 hat6; have M6 := Lib.hid (M5.out.next2 hlH HY.out hgrow6 hown6 hat6); have m6 := M5.out.mid hgrow6 (.inr rfl); have f6 := m6.frozen 1; have c6 := m6.cell (i := 1) rfl; clear m6 hown6 hgrow6 hat6)))
                    go_roundw
                    case rel => (repeat apply Exists.intro); exact ⟨⟨j + 1, _, _, by omega, by go_num, M6⟩, rfl⟩
                    case measure => simp [intOf]; omega
                  · have HX : Hid (nth X.1 j = yc) := by rw [Hid, hnt.1, if_neg (Nat.lt_irrefl j), if_pos rfl]; exact hyc
                    have HY : Hid (nth X.2 j = ya) := by rw [Hid, hnt.2, if_neg (Nat.lt_irrefl j), if_pos rfl]; exact hya
                    clear hnt hxa hya hxc hyc
                    go_wp2_with fail
                    go_quiet (fail)
                    go_wp2_with (first
                      | (at_builtin; refine append_lone rfl (.tmp 92) (.tmp 94) rfl (W9.heap.size + 1) v1 j _ rfl (((HDR.out _ (by first | exact Below.refl _ _ | exact below_drewN _ _ _ | exact below_t (below_drewN _ _ _) (below_drewN _ _ _))).two.r1).alloc _) _ yc rfl (heap_alloc_new _ _) hjm (by simp; omega) ?_; intro g5 cap5 w5 hown5 hgrow5 hat5; have M5 := Lib.hid ((HDR.out _ (by first | exact Below.refl _ _ | exact below_drewN _ _ _ | exact below_t (below_drewN _ _ _) (below_drewN _ _ _))).next1 hlL HX.out hgrow5 hown5 hat5); have m5 := (HDR.out _ (by first | exact Below.refl _ _ | exact below_drewN _ _ _ | exact below_t (below_drewN _ _ _) (below_drewN _ _ _))).mid hgrow5 (.inl rfl); have f5 := m5.frozen 0; have c5 := m5.cell (i := 0) rfl; have y1 := M5.out.x.cell (i := 1) rfl; clear m5 hown5 hgrow5 hat5)
                      | (at_builtin; go_loud (refine append_lone rfl (.tmp 98) (.tmp 100) rfl (W9.heap.size + 1) v2 j _ rfl (M5.out.two.r2.alloc _) _ ya rfl (new_set _ _ _ _) hjm (by have := M5.out.size; simp at this ⊢; omega) ?_; intro g6 cap6 w6 hown6 hgrow6 hat6; have M6 := Lib.hid (M5.out.next2 hlH HY.out hgrow6 hown6 hat6); have m6 := M5.out.mid hgrow6 (.inr rfl); have f6 := m6.frozen 1; have c6 := m6.cell (i := 1) rfl; clear m6 hown6 hgrow6 hat6)))
                    go_roundw
                    case rel => (repeat apply Exists.intro); exact ⟨⟨j + 1, _, _, by omega, by go_num, M6⟩, rfl⟩
                    case measure => simp [intOf]; omega
                · have hi5 : ((j : Int) == (k : Int)) = false := by simp; omega
                  have HX : Hid (nth X.1 j = xa) := by rw [Hid, hnt.1, if_neg hjk, if_neg hje]; exact hxa
                  have HY : Hid (nth X.2 j = ya) := by rw [Hid, hnt.2, if_neg hjk, if_neg hje]; exact hya
                  clear hnt hxa hya hxc hyc
                  go_wp2_with fail
                  go_quiet (fail)
                  go_wp2_with (first
                    | (at_builtin; refine append_lone rfl (.tmp 92) (.tmp 94) rfl (W9.heap.size + 1) v1 j _ rfl (((HDR.out _ (by first | exact Below.refl _ _ | exact below_drewN _ _ _ | exact below_t (below_drewN _ _ _) (below_drewN _ _ _))).two.r1).alloc _) _ xa rfl (heap_alloc_new _ _) hjm (by simp; omega) ?_; intro g5 cap5 w5 hown5 hgrow5 hat5; have M5 := Lib.hid ((HDR.out _ (by first | exact Below.refl _ _ | exact below_drewN _ _ _ | exact below_t (below_drewN _ _ _) (below_drewN _ _ _))).next1 hlL HX.out hgrow5 hown5 hat5); have m5 := (HDR.out _ (by first | exact Below.refl _ _ | exact below_drewN _ _ _ | exact below_t (below_drewN _ _ _) (below_drewN _ _ _))).mid hgrow5 (.inl rfl); have f5 := m5.frozen 0; have c5 := m5.cell (i := 0) rfl; have y1 := M5.out.x.cell (i := 1) rfl; clear m5 hown5 hgrow5 hat5)
                    | (at_builtin; go_loud (refine append_lone rfl (.tmp 98) (.tmp 100) rfl (W9.heap.size + 1) v2 j _ rfl (M5.out.two.r2.alloc _) _ ya rfl (new_set _ _ _ _) hjm (by have := M5.out.size; simp at this ⊢; omega) ?_; intro g6 cap6 w6 hown6 hgrow6 hat6; have M6 := Lib.hid (M5.out.next2 hlH HY.out hgrow6 hown6 hat6); have m6 := M5.out.mid hgrow6 (.inr rfl); have f6 := m6.frozen 1; have c6 := m6.cell (i := 1) rfl; clear m6 hown6 hgrow6 hat6)))
                  go_roundw
                  case rel => exact ⟨j + 1, _, _, by omega, by go_num, M6⟩
                  case measure => simp [intOf]; omega
            · have hi3 : ¬ (j : Int) < (n : Int) := by omega
              have t1 : X.1.take j = X.1 := List.take_of_length_le (by rw [HL1.out]; omega)
              have t2 : X.2.take j = X.2 := List.take_of_length_le (by rw [HL2.out]; omega)
              have hr1 := HC.out.two.r1
              have hr2 := HC.out.two.r2
              rw [t1] at hr1
              rw [t2] at hr2
              obtain ⟨r4, c4, hv1, n4⟩ := row_new hr1
              obtain ⟨r5, c5, hv2, n5⟩ := row_new hr2
              rw [List.length_map, HL1.out] at hv1
              rw [List.length_map, HL2.out] at hv2
              subst hv1 hv2
              obtain ⟨i4, i5⟩ := cutX_i64 (sd := decide (sd = 1)) E1.out E2.out LC1.out LC2.out hlt h1.i64 h2.i64 ic1.out ic2.out
              rw [HXX.out] at i4 i5
              obtain ⟨d, hd⟩ : ∃ d, decide (¬ FullX X.1 X.2) = d := ⟨_, rfl⟩
              have hEm : Hid (Calls Try.prog 94 #[.agg #[.slice r4 n c4, .slice r5 n c5]] wr fun e w' => e = .returned (.bool d) ∧ Below wr.heap.size wr w') := by
                have := RefEmpty_any r4 r5 c4 c5 X.1 X.2 d hd (by rw [HL1.out, HL2.out]; omega) wr (n4.ints i4 (by rw [HL1.out]; omega)) (n5.ints i5 (by rw [HL2.out]; omega))
                rwa [HL1.out, HL2.out] at this
              have HD := Lib.hid hd
              have hwb := Lib.hid HS.out.below.size
              have x0 := HC.out.x.cell (i := 0) rfl
              have x1 := HC.out.x.cell (i := 1) rfl
              clear t1 t2 hr1 hr2 i4 i5 hd
              go_wp2_with fail
              refine hEm.out.mono ?_
              rintro e7 w7 ⟨rfl, hb7⟩
              have HC7 := HC.out.keep hb7
              have HK7 := Lib.hid (HK.out.keep hb7)
              have x0 := HC7.x.cell (i := 0) rfl
              have x1 := HC7.x.cell (i := 1) rfl
              have N4 := Lib.hid (n4.keep' hb7)
              have N5 := Lib.hid (n5.keep' hb7)
              have hB7 := Lib.hid HK7.out.size
              have hbl7 : bs.length ≤ 1000000 := by have := HBL.out; omega
              clear HK HC HC7 a0 n4 n5 hEm hb7
              cases d with
              | false =>
                have HF : Hid (fullB (cutX alo ahi clo chi k (decide (sd = 1))) = true) := by
                  have := HD.out
                  rw [Hid, HXX.out]
                  unfold fullB
                  simpa using this
                clear HD
                go_wp2_with (at_builtin; go_loud (refine append_refbox rfl (.tmp 106) (.tmp 108) rfl (w6.heap.size + 1) _ bs.length _ rfl (HK7.out.out.alloc _) w7.heap.size (.slice r4 n c4) (.slice r5 n c5) rfl (Own.made _ _ [.slice r4 n c4, .slice r5 n c5] _ rfl) rfl rfl hbl7 (by have := hB7.out; simp; omega) ?_; intro v8 w8 hown8 hgrow8; have M8 := Lib.hid (HK7.out.app (b := ⟨r4, c4, X.1, r5, c5, X.2⟩) hgrow8 (by simpa [BoxV.vals, HL1.out, HL2.out] using hown8) (N4.out.mono (by have := hwb.out; omega)) (N5.out.mono (by have := hwb.out; omega))); clear hown8 hgrow8))
                go_roundw
                case rel => exact ⟨sd + 1, _, bs ++ [⟨r4, c4, X.1, r5, c5, X.2⟩], by omega, rfl, by go_num, by (rw [Hid]; have := HBL.out; simp; omega), by rw [sideX_yes hs2 HF.out, HXX.out]; exact M8⟩
                case measure => simp [intOf]; omega
              | true =>
                have HF : Hid (fullB (cutX alo ahi clo chi k (decide (sd = 1))) = false) := by
                  have := HD.out
                  rw [Hid, HXX.out]
                  unfold fullB
                  simpa using this
                clear HD
                go_wp2_with fail
                go_roundw
                case rel => exact ⟨sd + 1, _, bs, by omega, rfl, by go_num, by (rw [Hid]; have := HBL.out; omega), by rw [sideX_no hs2 HF.out]; exact HK7⟩
                case measure => simp [intOf]; omega
        · have hi2 : ¬ (sd : Int) < 2 := by omega
          obtain rfl : sd = 2 := by omega
          go_wp2_with fail
          go_roundw
          case rel => exact ⟨k + 1, _, bs, by omega, rfl, by go_num, by (rw [Hid]; have := HBL.out; omega), by have := HS; rwa [sideX_two] at this⟩
          case measure => simp [intOf]; omega
    · have hi1 : ¬ (k : Int) < (n : Int) := by omega
      have hkn : k = n := by omega
      have HB1 := HS.out.blocks
      go_wp2_with fail
      obtain ⟨qq, cap, rfl, hn⟩ := boxes_newR HS.out.out
      refine bodyPost_ret (v := .slice qq bs.length cap) (by simp [results, Try.results62, go_sem]) rfl ⟨⟨qq, cap, bs, rfl, hn.mono (by omega), ?_, ?_⟩, HS.out.below⟩
      · intro x hx
        have hm := List.mem_map_of_mem (f := BoxV.bx) hx
        rw [HS.out.val] at hm
        obtain ⟨k', sd', hk', e⟩ := cutsX_mem hm
        have hk' : k' < n := by omega
        obtain ⟨i4, i5⟩ := cutX_i64 (sd := sd') E1.out E2.out LC1.out LC2.out hk' h1.i64 h2.i64 ic1.out ic2.out
        obtain ⟨l4, l5⟩ := cutX_lens (sd := sd') E1.out E2.out LC1.out LC2.out hk'
        rw [← e] at i4 i5 l4 l5
        exact ⟨(HS.out.rows x hx).1.ints i4 (by show x.lo.length ≤ _; rw [show x.lo.length = n from l4]; omega), (HS.out.rows x hx).2.ints i5 (by show x.hi.length ≤ _; rw [show x.hi.length = n from l5]; omega)⟩
      · rw [HS.out.val, hkn, HVAL.out]

theorem RefMinus_all (p q p' q' : Option Addr) (c f c' f' : Nat) (alo ahi blo bhi : List Int) (n m : Nat) (e1 : alo.length = n) (e2 : ahi.length = n) (e3 : blo.length = m) (e4 : bhi.length = m) (hl : n ≤ 1000)
    (w : World) (h1 : Ints w p alo) (h2 : Ints w q ahi) (h3 : Ints w p' blo) (h4 : Ints w q' bhi) :
    Calls Try.prog 62 #[.agg #[.slice p n c, .slice q n f], .agg #[.slice p' m c', .slice q' m f']] w (RefMinusRet alo ahi blo bhi w) := by
  by_cases hm : Meets alo ahi blo bhi
  · exact RefMinus_yes p q p' q' c f c' f' alo ahi blo bhi n m e1 e2 e3 e4 hl hm w h1 h2 h3 h4
  · by_cases hf : FullX alo ahi
    · exact RefMinus_no p q p' q' c f c' f' alo ahi blo bhi n m e1 e2 e3 e4 (by omega) hf hm w h1 h2 h3 h4
    · exact RefMinus_empty p q p' q' c f c' f' alo ahi blo bhi n m e1 e2 e3 e4 hf w h1 h2
end Go.Proofs.Ythkfjdhakbjllaa
