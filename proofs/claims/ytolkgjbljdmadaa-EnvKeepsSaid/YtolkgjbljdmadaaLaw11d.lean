/- The law EnvKeeps, walked: it returns true at all arguments and writes nothing that was there. Condition: the argument's length is within its capacity, as of every slice. -/
import Derived.Test.YtolkgjbljdmadaaLaw11
import Derived.Test.YtolkgjbljdmadaaEnv16
namespace Go.Proofs.Ytolkgjbljdmadaa
open Go.RowKit Go.Shelf
set_option linter.unusedVariables false
set_option linter.unusedSimpArgs false

theorem small_len {bs : List BV} (hr : RightP bs) : ∀ b ∈ bs, b.s.length ≤ 1000000 ∧ b.d.length ≤ 1000000 := fun b hb => by
  obtain ⟨k, hk, rfl⟩ := List.mem_iff_getElem.1 hb
  have e : bs[k] = bth bs k := by
    have := bth_get? hk
    rw [List.getElem?_eq_getElem hk] at this
    exact Option.some.inj this
  rw [e]
  have := arr_small (okB_arr (hr k hk).1)
  omega
theorem fewB_lenK {bs : List BV} {n : Int} (h : fewB bs n = true) : bs.length ≤ 12 := fewB_len h

set_option maxRecDepth 100000 in
set_option maxHeartbeats 8000000 in
theorem EnvKeeps_main (p : Option Addr) (c : Nat) (bs : List BV) (w : World) (h : Binds w p bs) (hs : fewB bs 300 = true ∧ RightP bs ∧ bs.all smallA = true) :
    Calls Try.prog 9 #[.slice p bs.length c] w fun e w' => e = .returned (.bool true) ∧ Below w.heap.size w w' := by
  have HS := Lib.hid hs
  have hl := fewB_lenK hs.1
  have hsm := Lib.hid (small_len hs.2.1)
  clear hs
  go_enter Try.func9, Try.ntmps9
  go_wp2_with fail
  refine (awake11 _).mono ?_
  rintro e1 w1 ⟨rfl, hb⟩
  go_wp2_with fail
  refine (RSmall_any true p c bs ⟨fun _ => HS.out, fun _ => rfl⟩ _ (h.keep hb)).mono ?_
  rintro e2 w2 ⟨rfl, hb1⟩
  have hb := below_t hb hb1
  clear hb1
  go_wp2_with fail
  refine (RCopy_any p c bs (by omega) hsm.out _ (h.keep hb)).mono ?_
  rintro e3 w3 ⟨⟨q, cq, ds, rfl, N3, V3, S3⟩, hb1⟩
  have hA := hb.size
  have hAB := hb1.size
  have hb := below_t hb hb1
  clear hb1
  have hnew := New_yes q cq ds (right_same S3 HS.out.2.1) (by have := S3.1; omega) w3 (binds_of N3 V3.ints (by have := S3.1; omega))
  rw [← S3.1] at hnew
  go_wp2_with fail
  refine hnew.mono ?_
  rintro e4 w4 ⟨⟨g, cs, rfl, E4, S4⟩, hb1⟩
  have hBC := hb1.size
  have N4 := N3.keep' hb1
  have W4 : AllWr (PK w2.heap.size w3.heap.size w4.heap.size) w4 ds := (AllWr.of_vals V3 PK.lo).keep hb1
  have hb := below_t hb hb1
  clear hb1
  clear hnew
  have hcl := Lib.hid (show cs.length = bs.length by have := S3.1; have := S4.1; omega)
  have hcl6 : cs.length ≤ 12 := by have := hcl.out; omega
  go_wp2_with fail
  refine (List_row (by omega) w4 E4).mono ?_
  rintro e5 w5 ⟨⟨q5, c5, es, rfl, R5, V5, S5⟩, hb5⟩
  have N5 := N4.keep' hb5
  have W5 := (AllWr.of_vals (P := PK w2.heap.size w3.heap.size w4.heap.size) V5 (fun g h _ => .inr h))
  have O5 : OutSt (PK w2.heap.size w3.heap.size w4.heap.size) w4.heap.size w4 (.slice q5 cs.length c5) cs.length es w5 := ⟨R5, W5, Chg.of_below hb5⟩
  have D5 := W4.keep hb5
  have S34 := Lib.hid (S3.trans S4)
  have hdl := Lib.hid S3.1
  have hel := Lib.hid (show es.length = cs.length from S5.1.symm)
  have hd6 : ds.length ≤ 12 := by have := hdl.out; omega
  have hbd : ∀ o ∈ es ++ ds, o.s.length ≤ 1000000 ∧ o.d.length ≤ 1000000 := fun o ho => by
    rcases List.mem_append.1 ho with ho | ho
    · exact ⟨(V5 o ho).2.2.2.2.1, (V5 o ho).2.2.2.2.2.1⟩
    · exact ⟨(V3 o ho).2.2.2.2.1, (V3 o ho).2.2.2.2.2.1⟩
  clear S3 S4 S5 V3 V5 N3 N4 R5 W4 W5
  go_wp2_with (at_builtin; refine append_binds rfl _ _ rfl w4.heap.size _ cs.length _ rfl O5.row q cq ds (by rw [← hdl.out]; rfl) N5.cells (by omega) hb5.size ?_; intro v6 w6 hown6 hg6)
  have O6 := O5.join D5 PK.hi hg6 hown6
  have hst : Hid (OutSt (PK w2.heap.size w3.heap.size w4.heap.size) w4.heap.size w4 v6 (cs.length + ds.length) (es ++ ds) w6 ∧ (es ++ ds).length = cs.length + ds.length ∧ cs.length + ds.length ≤ 24 ∧ ∀ o ∈ es ++ ds, o.s.length ≤ 1000000 ∧ o.d.length ≤ 1000000) := ⟨O6, by have := hel.out; simp; omega, by omega, hbd⟩
  clear O5 D5 N5 hown6 hg6 O6 hb5 hbd
  obtain ⟨P, hPK⟩ : ∃ P, PK w2.heap.size w3.heap.size w4.heap.size = P := ⟨_, rfl⟩
  have hPge : ∀ j, P j → w.heap.size ≤ j := fun j hj => Nat.le_trans hA ((hPK ▸ hj : PK _ _ _ j).ge hAB hBC)
  have hPnot : ∀ j, w3.heap.size ≤ j → j < w4.heap.size → ¬ P j := fun j h1 h2 h3 => PK.not h1 h2 (hPK ▸ h3 : PK w2.heap.size w3.heap.size w4.heap.size j)
  have hPhi : ∀ j, w4.heap.size ≤ j → P j := hPK ▸ PK.hi
  rw [hPK] at hst
  have hb4 := hb
  clear hPK hb
  have hcw : w.heap.size ≤ w4.heap.size := by omega
  go_wp2_with fail
  go_loopw [6, 7] (fun v i wr => ∃ (k n : Nat) (os : List BV), k ≤ bs.length ∧ i = .int .i64 k ∧ Hid (OutSt P w4.heap.size w4 v n os wr ∧ os.length = n ∧ n ≤ 24 + k ∧ ∀ o ∈ os, o.s.length ≤ 1000000 ∧ o.d.length ≤ 1000000)) (fun _ i _ => bs.length - (intOf i).toNat)
  case atStart => exact ⟨0, _, _, Nat.zero_le _, rfl, ⟨hst.out.1, hst.out.2.1, hst.out.2.2⟩⟩
  case round =>
    obtain ⟨k, n, os, hk, rfl, HO⟩ := hrel
    clear hst
    have hbw := hb4.trans (HO.out.1.chg.below (B := w.heap.size) hcw hPge)
    by_cases hlt : k < bs.length
    · have hki : (k : Int) < (bs.length : Int) := by omega
      obtain ⟨gp, off, rfl, hg0, c0, c1, c2⟩ := (h.keep hbw).at hlt
      have hkc := hcl.out
      have hlc : k < cs.length := by omega
      obtain ⟨x, hx⟩ : ∃ x, (bth bs k).name = x := ⟨_, rfl⟩
      have hx' : (bth cs k).name = x := (S34.out.2 k hlt).1.symm.trans hx
      obtain ⟨b, hbb⟩ : ∃ b, bth cs k = b := ⟨_, rfl⟩
      have HX := Lib.hid hx'
      have HBB := Lib.hid hbb
      have Ew := E4.chg HO.out.1.chg hPnot
      rw [hx] at c0
      have H0 := Lib.hid c0
      clear hx hx' hbb hkc c1 c2
      go_wp2_with fail
      refine (Get_yes hlc (by omega) x HX.out _ Ew).mono ?_
      rintro e7 w7 ⟨⟨p7, c7, q7, f7, rfl, n1, n2⟩, hb7⟩
      rw [HBB.out] at n1 n2
      rw [HBB.out]
      have hba := below_alloc w7 (.cells #[.slice p7 b.s.length c7, .slice q7 b.d.length f7] 47)
      have hV := Lib.hid (Own.made w7 w7.heap.size [.slice p7 b.s.length c7, .slice q7 b.d.length f7] 47 rfl)
      have h7s := hb7.size
      have hOs := HO.out.1.chg.size
      have hc4 : w4.heap.size ≤ w7.heap.size := by omega
      have A7 : AllWr P w7 [⟨⟨#[]⟩, p7, c7, b.s, q7, f7, b.d⟩] := fun o ho => by
        rw [List.mem_singleton] at ho
        subst ho
        exact ⟨wr_of_new n1 fun g h1 _ => hPhi g (by omega), wr_of_new n2 fun g h1 _ => hPhi g (by omega)⟩
      have A8 := Lib.hid (A7.keep hba)
      have O8 := Lib.hid ((HO.out.1.keep hb7).keep hba)
      have E8 := (Ew.keep hb7).keep hba
      have c0 := H0.out
      have g7 : gp < w7.heap.size := Nat.lt_of_lt_of_le hg0 h7s
      have c0 := (hba.cell (p := ⟨gp, off + k * 3, none⟩) g7).trans ((hb7.cell (p := ⟨gp, off + k * 3, none⟩) hg0).trans c0)
      obtain ⟨-, -, -, -, hsl, hdl7, -⟩ := Ew.vals _ (bth_mem hlc)
      rw [HBB.out] at hsl hdl7
      clear n1 n2 A7 Ew
      go_wp2_with fail
      clear c0
      refine (Shape_yes hlc (by omega) x HX.out _ E8).mono ?_
      rintro e9 w9 ⟨⟨p9, c9, rfl, n9⟩, hb9⟩
      rw [HBB.out] at n9
      rw [HBB.out]
      have hI : Hid (InSt P w4.heap.size w4 u6 n os ⟨⟨#[]⟩, p7, c7, b.s, q7, f7, b.d⟩ p9 b.s.length w7.heap.size w9) := ⟨O8.out.keep hb9, A8.out.keep hb9, by simpa using wr_of_new n9 fun g h1 _ => hPhi g (by have := hba.size; omega), hV.out.keep hb9 (by simp)⟩
      clear E8 n9 hb9 hb7 hba A8 O8 hV
      go_wp2_with fail
      go_loopw [12] (fun i wr => ∃ j : Nat, j ≤ b.s.length ∧ i = .int .i64 j ∧ Hid (InSt P w4.heap.size w4 u6 n os ⟨⟨#[]⟩, p7, c7, b.s, q7, f7, b.d⟩ p9 b.s.length w7.heap.size wr)) (fun i _ => b.s.length - (intOf i).toNat)
      case atStart => exact ⟨0, Nat.zero_le _, rfl, hI⟩
      case round =>
        obtain ⟨j, hj, rfl, HI⟩ := hrel
        clear hI
        by_cases hlj : j < b.s.length
        · have hji : (j : Int) < (b.s.length : Int) := by omega
          obtain ⟨gr, y, rfl, hPr, cr, fr, vs, or⟩ := wr_at HI.out.row hlj
          have HN := Lib.hid (HI.out.set hPr or j (wrap64 (y + 1)))
          clear or
          go_wp2_with fail
          go_roundw
          case rel => exact ⟨j + 1, by omega, by go_num, HN⟩
          case measure => simp [intOf]; omega
        · have hji : ¬ (j : Int) < (b.s.length : Int) := by omega
          have v0 := HI.out.var.cell (i := 0) rfl
          have v1 := HI.out.var.cell (i := 1) rfl
          have hn24 := HO.out.2.2.1
          have hsz := HI.out.out.chg.size
          go_wp2_with (at_builtin; refine append_bind rfl _ _ rfl w4.heap.size _ n _ rfl (HI.out.out.row.alloc _) (some ⟨wr.heap.size, 0, none⟩) 1 ⟨#[]⟩ p7 q7 b.s.length c7 b.d.length f7 rfl (cells_new _ _ [.string ⟨#[]⟩, .slice p7 b.s.length c7, .slice q7 b.d.length f7] _ (by simp)) (by omega) (by simp; omega) ?_; intro v' w5' hown5 hg5)
          have HN := HI.out.out.next (qs := [⟨⟨#[]⟩, p7, c7, b.s, q7, f7, b.d⟩]) (m := n + 1) HI.out.all hPhi hg5 hown5
          have HBN : ∀ o ∈ os ++ [⟨⟨#[]⟩, p7, c7, b.s, q7, f7, b.d⟩], o.s.length ≤ 1000000 ∧ o.d.length ≤ 1000000 := fun o ho => by
            rcases List.mem_append.1 ho with ho | ho
            · exact HO.out.2.2.2 o ho
            · rw [List.mem_singleton] at ho
              subst ho
              exact ⟨hsl, hdl7⟩
          go_roundw
          case rel => exact ⟨k + 1, n + 1, _, by omega, by go_num, ⟨HN, by simp [HO.out.2.1], by omega, HBN⟩⟩
          case measure => simp [intOf]; omega
    · have hki : ¬ (k : Int) < (bs.length : Int) := by omega
      obtain ⟨q6, cq6, rfl⟩ : ∃ q cq, u6 = .slice q n cq := row_form HO.out.1.row
      have HST := Lib.hid HO.out.1
      have hn24 := HO.out.2.2.1
      have HOL := Lib.hid HO.out.2.1
      have HBD := Lib.hid HO.out.2.2.2
      clear HO hbw
      go_wp2_with fail
      go_loopw [13] (fun i wr => ∃ a : Nat, a ≤ n ∧ i = .int .i64 a ∧ Hid (OutSt P w4.heap.size w4 (.slice q6 n cq6) n os wr)) (fun i _ => n - (intOf i).toNat)
      case atStart => exact ⟨0, Nat.zero_le _, rfl, HST⟩
      case round =>
        obtain ⟨a, ha, rfl, HA⟩ := hrel
        clear HST
        by_cases hla : a < n
        · have hai : (a : Int) < (n : Int) := by omega
          have hao : a < os.length := by have := HOL.out; omega
          obtain ⟨o, ho⟩ : ∃ o, bth os a = o := ⟨_, rfl⟩
          have HBO := Lib.hid ho
          have homem : o ∈ os := ho ▸ bth_mem hao
          clear ho
          obtain ⟨hos, hod⟩ := HBD.out o homem
          obtain ⟨gq, oq, rfl, -, -, -⟩ := HA.out.at hao
          go_wp2_with fail
          go_loopw [14] (fun i wr => ∃ j : Nat, j ≤ o.d.length ∧ i = .int .i64 j ∧ Hid (OutSt P w4.heap.size w4 (.slice (some ⟨gq, oq, none⟩) n cq6) n os wr)) (fun i _ => o.d.length - (intOf i).toNat)
          case atStart => exact ⟨0, Nat.zero_le _, rfl, HA⟩
          case round =>
            obtain ⟨j, hj, rfl, HJ⟩ := hrel
            clear HA
            obtain ⟨gq', oq', he, -, r1, r2⟩ := HJ.out.at hao
            cases he
            rw [HBO.out] at r1 r2
            by_cases hlj : j < o.d.length
            · have hji : (j : Int) < (o.d.length : Int) := by omega
              obtain ⟨gd, y, hed, hPd, cd, fd, vd, od⟩ := wr_at (HJ.out.wrs o homem).2 hlj
              have HN := Lib.hid (HJ.out.set hPd od (by decide) j (wrap64 (y + 1)))
              rw [hed] at r2
              clear od r1 hed
              go_wp2_with fail
              go_roundw
              case rel => exact ⟨j + 1, by omega, by go_num, HN⟩
              case measure => simp [intOf]; omega
            · have hji : ¬ (j : Int) < (o.d.length : Int) := by omega
              clear r1
              go_wp2_with fail
              clear r2
              go_loopw [15] (fun i wr => ∃ j : Nat, j ≤ o.s.length ∧ i = .int .i64 j ∧ Hid (OutSt P w4.heap.size w4 (.slice (some ⟨gq, oq, none⟩) n cq6) n os wr)) (fun i _ => o.s.length - (intOf i).toNat)
              case atStart => exact ⟨0, Nat.zero_le _, rfl, HJ⟩
              case round =>
                obtain ⟨m, hm, rfl, HM⟩ := hrel
                clear HJ
                obtain ⟨gq', oq', he, -, r1, r2⟩ := HM.out.at hao
                cases he
                rw [HBO.out] at r1 r2
                clear r2
                by_cases hlm : m < o.s.length
                · have hmi : (m : Int) < (o.s.length : Int) := by omega
                  obtain ⟨gd, y, hed, hPd, cd, fd, vd, od⟩ := wr_at (HM.out.wrs o homem).1 hlm
                  have HN := Lib.hid (HM.out.set hPd od (by decide) m (wrap64 (y + 1)))
                  rw [hed] at r1
                  clear od hed
                  go_wp2_with fail
                  go_roundw
                  case rel => exact ⟨m + 1, by omega, by go_num, HN⟩
                  case measure => simp [intOf]; omega
                · have hmi : ¬ (m : Int) < (o.s.length : Int) := by omega
                  go_wp2_with fail
                  clear r1
                  go_roundw
                  case rel => exact ⟨a + 1, by omega, by go_num, HM⟩
                  case measure => simp [intOf]; omega
        · have hai : ¬ (a : Int) < (n : Int) := by omega
          have Ew := E4.chg HA.out.chg hPnot
          have hbw := hb4.trans (HA.out.chg.below (B := w.heap.size) hcw hPge)
          have hl' := h.keep hbw
          clear HA
          go_wp2_with fail
          refine (List_any (by omega) _ Ew).mono ?_
          rintro e7 w7 ⟨⟨q7, c7, fs, rfl, hL7, hV7, hS7⟩, hb7⟩
          have HB7 := binds_of hL7 hV7.ints (by have := hS7.1; omega)
          have HS7 := Lib.hid ((S34.out.trans hS7).symm)
          have hl7 := hl'.keep hb7
          have hbz := below_t hbw hb7
          rw [show cs.length = fs.length from hS7.1]
          clear hL7 hV7 hS7
          go_wp2_with fail
          refine (BSame_yes q7 p c7 c fs bs HS7.out bs.length rfl _ HB7 hl7).mono ?_
          rintro e8 w8 ⟨rfl, hb8⟩
          have hbz := below_t hbz hb8
          go_wp2_with fail
          go_ret
          exact ⟨rfl, hbz⟩

set_option maxRecDepth 100000 in
set_option maxHeartbeats 4000000 in
theorem EnvKeeps_law (p : Option Addr) (c : Nat) (bs : List BV) (w : World) (h : Binds w p bs) (hc : bs.length ≤ c) :
    Calls Try.prog 9 #[.slice p bs.length c] w fun e w' => e = .returned (.bool true) ∧ Below w.heap.size w w' := by
  by_cases hs : fewB bs 300 = true ∧ RightP bs ∧ bs.all smallA = true
  · exact EnvKeeps_main p c bs w h hs
  · have HS := Lib.hid hs
    clear hs
    go_enter Try.func9, Try.ntmps9
    go_wp2_with fail
    refine (awake11 _).mono ?_
    rintro e1 w1 ⟨rfl, hb⟩
    go_wp2_with fail
    refine (RSmall_any false p c bs ⟨(fun h => by cases h), fun h => (HS.out h).elim⟩ _ (h.keep hb)).mono ?_
    rintro e2 w2 ⟨rfl, hb1⟩
    have hb := below_t hb hb1
    clear hb1
    go_wp2_with fail
    refine (awake11 _).mono ?_
    rintro e3 w3 ⟨rfl, hb1⟩
    have hb := below_t hb hb1
    clear hb1
    go_wp2_with fail
    go_ret
    exact ⟨rfl, hb⟩
end Go.Proofs.Ytolkgjbljdmadaa
