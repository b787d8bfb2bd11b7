/- The law SpecNames, walked: it returns true at all arguments and writes nothing that was there. No condition. -/
import Derived.Test.YtolkgjbljdmadaaEnv10
import Derived.Test.YtolkgjbljdmadaaLaw12
namespace Go.Proofs.Ytolkgjbljdmadaa
open Go.RowKit Go.Shelf
set_option linter.unusedVariables false
set_option linter.unusedSimpArgs false

theorem arr_vec {d : List Int} (hl : d.length ≤ 300) : arrS [(d.length : Int)] d = 0 := by
  obtain ⟨n, hn⟩ : ∃ n : Nat, d.length = n := ⟨_, rfl⟩
  rw [hn]
  have h1 : ([(n : Int)]).any neg = false := by simp [neg]
  have h2 : ([(n : Int)]).any big = false := by simp [big]; omega
  have hp : prodR [(n : Int)] = ((n : Int), 0) := by
    by_cases h0 : n = 0
    · subst h0; rfl
    · exact prodR_some h1 h2 (by simp; omega) (by simp [prodL]; omega)
  have hs : shapeS [(n : Int)] = 0 := by
    unfold shapeS
    rw [h1, hp]
    rfl
  unfold arrS
  have hc : cellsS [(n : Int)] = n := by unfold cellsS; rw [if_pos hs, hp]
  rw [if_pos hs, hc, hn, if_pos rfl]
theorem arr_scalar {d : List Int} (hl : d.length = 1) : arrS [] d = 0 := by
  have h0 : shapeS [] = 0 := by decide
  have h1 : cellsS [] = 1 := by decide
  unfold arrS
  rw [if_pos h0, h1, hl]
  rfl

set_option maxHeartbeats 2000000 in
theorem Read_bound {B g : Nat} {cs : List BV} {k : Nat} (hk : k < cs.length) (hl : cs.length ≤ 1000000) (x : ByteArray) (hx : (bth cs k).name = x) (s d : List Int) (hs : (bth cs k).s = s) (hd : (bth cs k).d = d) (hs1 : s.length ≤ 1) (sc : Bool) (hsc : ((s.length : Int) == 0) = sc)
    (f a : Int) (pn pk : Option Addr) (n1 c1 n2 c2 : Nat) (w : World) (h : EnvAt B w g cs) :
    Calls Try.prog 40 #[.pointer (some ⟨g, 0, none⟩), .agg #[.int .i64 2, .int .i64 f, .int .i64 a, .string x, .slice pn n1 c1, .slice pk n2 c2]] w fun e w' =>
      (∃ q c', e = .returned (.tuple #[.agg #[.slice q d.length c', .bool sc], .int .i64 0]) ∧ Ints w' q d) ∧ Below w.heap.size w w' := by
  obtain ⟨W, hW⟩ : ∃ W, (w.alloc (.cells #[.int .i64 2, .int .i64 f, .int .i64 a, .string x, .slice pn n1 c1, .slice pk n2 c2] 78)).alloc (.cells #[.slice none 0 0, .bool false] 30) = W := ⟨_, rfl⟩
  have hbA : Below w.heap.size w W := hW ▸ below_t (below_alloc _ _) (below_alloc _ _)
  have HO : Own W (w.heap.size + 1) 30 [.slice none 0 0, .bool false] := by rw [← hW]; exact Own.made _ _ _ _ (by simp)
  have hlt : w.heap.size + 1 < W.heap.size := by rw [← hW]; simp
  have HW := Lib.hid hW
  have HE := h.keep hbA
  have HX := Lib.hid hx
  obtain ⟨-, -, a3, a4, -, a6, -⟩ := h.vals _ (bth_mem hk)
  have HG := Lib.hid fun w' hE => Get_yes (B := B) (g := g) hk hl x HX.out w' hE
  rw [hs, hd] at HG
  rw [hd] at a4 a6
  have hd1 : decide (1 < (s.length : Int)) = false := decide_eq_false (by omega)
  have A4 := Lib.hid a4
  clear hW hx hs hd a3 a4
  go_enter Try.func40, Try.ntmps40
  go_wp2_with fail
  rw [HW.out]
  refine (HG.out _ HE).mono ?_
  rintro e1 w1 ⟨⟨p, c, q, fq, rfl, hn1, hn2⟩, hb1⟩
  have HO := HO.keep hb1 hlt
  have hb := below_t hbA hb1
  have hltW := hlt
  have hlt := Nat.lt_of_lt_of_le hlt hb1.size
  have hne : w.heap.size + 1 ≠ w1.heap.size := by omega
  have hi2 := (((hn2.other (a := ⟨w.heap.size + 1, 0, none⟩) hltW (.slice q d.length fq)).other (a := ⟨w.heap.size + 1, 1, none⟩) hltW (.bool sc)).ints A4.out (by omega)).keep (below_alloc _ (.cells #[.slice p s.length c, .slice q d.length fq] 47))
  have q0 := HO.cell (i := 0) rfl
  have q1 := HO.cell (i := 1) rfl
  have f0 := HO.frozen 0
  have f1 := HO.frozen 1
  clear hb1 hn1 hn2 HE HG h
  go_wp2_with fail
  refine bodyPost_ret (v := .tuple #[.agg #[.slice q d.length fq, .bool sc], .int .i64 0]) (by simp [results, Try.results40, go_sem, q0, q1, f0, f1, hne, hlt]) rfl ⟨⟨q, fq, rfl, hi2⟩, ?_⟩
  have hle : w.heap.size ≤ w.heap.size + 1 := by omega
  have h2 := below_set (below_set hb hle 0 (.slice q d.length fq)) hle 1 (.bool sc)
  exact h2.alloc h2.size _

def nV : ByteArray := ⟨#[118]⟩
theorem nameV : nameB nV = true := by decide

theorem right_oneb {b : BV} (h : okB b = true) : RightP [b] := by
  intro k hk
  have : k = 0 := by simp at hk; omega
  subst this
  exact ⟨h, fun j hj => by omega⟩
theorem w12_new {w : World} {b : BV} {g0 : Nat} (hg : g0 = w.heap.size) (hb : okB b = true) (hx : b.name.size ≤ 9223372036854775807) (h : Ints w b.sp b.s) (h' : Ints w b.dp b.d) :
    Calls Try.prog 25 #[.slice (some ⟨g0, 0, none⟩) 1 1] (w.alloc (.cells #[.string b.name, .slice b.sp b.s.length b.sc, .slice b.dp b.d.length b.dc] 62)) fun e w' =>
      (∃ k cs, e = .returned (.tuple #[.pointer (some ⟨k, 0, none⟩), .int .i64 0]) ∧ EnvAt w.heap.size w' k cs ∧ SameB [b] cs) ∧ Below w.heap.size w w' := by
  refine (New_yes (some ⟨g0, 0, none⟩) 1 [b] (right_oneb hb) (by simp) _ ⟨?_, fun z hz => ?_, by simp⟩).mono fun e w' ⟨⟨k, cs, h1, h2, h3⟩, hb⟩ => ⟨⟨k, cs, h1, h2.mono (by simp), h3⟩, below_1 hb⟩
  · have := cells_new w g0 b.cells 62 hg
    simpa [rowsB, BV.cells] using this
  · rw [List.mem_singleton] at hz
    subst hz
    exact ⟨h.keep (below_alloc _ _), h'.keep (below_alloc _ _), hx⟩


set_option maxRecDepth 100000 in
set_option maxHeartbeats 4000000 in
theorem SpecNames_vec (p : Option Addr) (c : Nat) (d : List Int) (w : World) (h : Ints w p d) (hl : d.length ≤ 300) (h1 : d.length ≠ 1) :
    Calls Try.prog 10 #[.slice p d.length c, .bool false] w fun e w' => e = .returned (.bool true) ∧ Below w.heap.size w w' := by
  have hd : decide (300 < (d.length : Int)) = false := decide_eq_false (by omega)
  have h1b : ((d.length : Int) == 1) = false := by simp; omega
  have H1 := Lib.hid h1
  clear h1
  go_enter Try.func10, Try.ntmps10
  go_wp2_with fail
  refine (awake12 _).mono ?_
  rintro e1 w1 ⟨rfl, hb⟩
  have hb1 := below_t (below_alloc w1 (.cells #[.int .i64 d.length] 3)) (below_alloc _ (.cells #[.slice (some ⟨w1.heap.size, 0, none⟩) 1 1, .slice p d.length c] 47))
  have hlit : Ints ((w1.alloc (.cells #[.int .i64 d.length] 3)).alloc (.cells #[.slice (some ⟨w1.heap.size, 0, none⟩) 1 1, .slice p d.length c] 47)) (some ⟨w1.heap.size, 0, none⟩) [(d.length : Int)] := (Ints.lit w1 _ [(d.length : Int)] 3 rfl (fun x hx => by rw [List.mem_singleton] at hx; subst hx; exact ⟨by omega, by omega⟩) (by simp)).keep (below_alloc _ _)
  obtain ⟨W, hW⟩ : ∃ W, (w1.alloc (.cells #[.int .i64 d.length] 3)).alloc (.cells #[.slice (some ⟨w1.heap.size, 0, none⟩) 1 1, .slice p d.length c] 47) = W := ⟨_, rfl⟩
  have hWs : w1.heap.size + 1 + 1 = W.heap.size := by rw [← hW]; simp
  rw [hW] at hb1 hlit
  have HW := Lib.hid hW
  have hbW := below_t hb hb1
  have HNEW := Lib.hid (w12_new (w := W) (b := ⟨nV, (some ⟨w1.heap.size, 0, none⟩), 1, [(d.length : Int)], p, c, d⟩) hWs (by unfold okB; rw [show nameB nV = true from nameV, show arrS [(d.length : Int)] d = 0 from arr_vec hl]; rfl) (by show nV.size ≤ _; decide) hlit (h.keep hbW))
  clear hW hWs
  go_wp2_with fail
  rw [HW.out]
  refine (HNEW.out).mono ?_
  rintro e2 w2 ⟨⟨g, cs, rfl, E, hS⟩, hb2⟩
  have hb := below_t hbW hb2
  obtain ⟨n1, n2, n3⟩ := hS.2 0 (by simp)
  have hc0 : 0 < cs.length := by have := hS.1; simp at this; omega
  have hcl : cs.length ≤ 1000000 := by have := hS.1; simp at this; omega
  have HR := Lib.hid fun w' hE => Read_bound (g := g) (B := W.heap.size) hc0 hcl nV n1.symm [(d.length : Int)] d n2.symm n3.symm (by simp) false (by rfl) 0 (-1) none none 0 0 0 0 w' hE
  clear n1 n2 n3 hS hc0 hcl hb2 hbW hb1 hlit
  go_wp2_with fail
  refine (HR.out _ E).mono ?_
  rintro e3 w3 ⟨⟨q, cq, rfl, iq⟩, hb3⟩
  have E := E.keep hb3
  have hb := below_t hb hb3
  clear hb3
  have hba := below_alloc w3 (.cells #[.slice q d.length cq, .bool false] 30)
  have S := Sp2.new w3 _ (.slice q d.length cq) false 30 rfl
  have E := E.keep hba
  have iq := iq.keep hba
  have hb := below_t hb hba
  clear hba
  go_wp2_with fail
  refine (Read_lit (some ⟨g, 0, none⟩) _ 0 (-1) p none c 0 0 d false h1b _ (h.keep hb) (by omega)).mono ?_
  rintro e4 w4 ⟨⟨r, cr, rfl, ir⟩, hb4⟩
  have S := S.keep hb4
  have iq := iq.keep hb4
  have hb := below_t hb hb4
  clear hb4
  have hba := below_alloc w4 (.cells #[.slice r d.length cr, .bool false] 30)
  have T := Sp2.new w4 _ (.slice r d.length cr) false 30 rfl
  have S := S.keep hba
  have iq := iq.keep hba
  have ir := ir.keep hba
  have hb := below_t hb hba
  clear hba
  clear E
  have s0 := S.c0
  have s1 := S.c1
  have t0 := T.c0
  have t1 := T.c1
  go_wp2_with fail
  clear s0 s1 t0 t1
  refine (SpSame_yes q r cq cr d false _ iq ir (by omega)).mono ?_
  rintro e5 w5 ⟨rfl, hb5⟩
  have S := S.keep hb5
  have iq := iq.keep hb5
  have hb := below_t hb hb5
  clear hb5
  have s0 := S.c0
  have s1 := S.c1
  go_wp2_with fail
  clear s0 s1
  refine (SpSame_yes q p cq c d false _ iq (h.keep hb) (by omega)).mono ?_
  rintro e6 w6 ⟨rfl, hb6⟩
  have hb := below_t hb hb6
  clear hb6
  go_wp2_with fail
  go_ret
  exact ⟨rfl, hb⟩

set_option maxRecDepth 100000 in
set_option maxHeartbeats 4000000 in
theorem SpecNames_scalar (p : Option Addr) (c : Nat) (d : List Int) (w : World) (h : Ints w p d) (hl : d.length ≤ 300) (h1 : d.length = 1) :
    Calls Try.prog 10 #[.slice p d.length c, .bool true] w fun e w' => e = .returned (.bool true) ∧ Below w.heap.size w w' := by
  have hd : decide (300 < (d.length : Int)) = false := decide_eq_false (by omega)
  have h1b : ((d.length : Int) == 1) = true := by simp; omega
  have H1 := Lib.hid h1
  clear h1
  go_enter Try.func10, Try.ntmps10
  go_wp2_with fail
  refine (awake12 _).mono ?_
  rintro e1 w1 ⟨rfl, hb⟩
  have hb1 := below_t (below_alloc w1 (.cells #[.int .i64 d.length] 3)) (below_alloc _ (.cells #[.slice none 0 0, .slice p d.length c] 47))
  have hlit : Ints ((w1.alloc (.cells #[.int .i64 d.length] 3)).alloc (.cells #[.slice none 0 0, .slice p d.length c] 47)) none [] := Ints.nil _
  obtain ⟨W, hW⟩ : ∃ W, (w1.alloc (.cells #[.int .i64 d.length] 3)).alloc (.cells #[.slice none 0 0, .slice p d.length c] 47) = W := ⟨_, rfl⟩
  have hWs : w1.heap.size + 1 + 1 = W.heap.size := by rw [← hW]; simp
  rw [hW] at hb1 hlit
  have HW := Lib.hid hW
  have hbW := below_t hb hb1
  have HNEW := Lib.hid (w12_new (w := W) (b := ⟨nV, none, 0, [], p, c, d⟩) hWs (by unfold okB; rw [show nameB nV = true from nameV, show arrS [] d = 0 from arr_scalar H1.out]; rfl) (by show nV.size ≤ _; decide) hlit (h.keep hbW))
  clear hW hWs
  go_wp2_with fail
  rw [HW.out]
  refine (HNEW.out).mono ?_
  rintro e2 w2 ⟨⟨g, cs, rfl, E, hS⟩, hb2⟩
  have hb := below_t hbW hb2
  obtain ⟨n1, n2, n3⟩ := hS.2 0 (by simp)
  have hc0 : 0 < cs.length := by have := hS.1; simp at this; omega
  have hcl : cs.length ≤ 1000000 := by have := hS.1; simp at this; omega
  have HR := Lib.hid fun w' hE => Read_bound (g := g) (B := W.heap.size) hc0 hcl nV n1.symm [] d n2.symm n3.symm (by simp) true (by rfl) 0 (-1) none none 0 0 0 0 w' hE
  clear n1 n2 n3 hS hc0 hcl hb2 hbW hb1 hlit
  go_wp2_with fail
  refine (HR.out _ E).mono ?_
  rintro e3 w3 ⟨⟨q, cq, rfl, iq⟩, hb3⟩
  have E := E.keep hb3
  have hb := below_t hb hb3
  clear hb3
  have hba := below_alloc w3 (.cells #[.slice q d.length cq, .bool true] 30)
  have S := Sp2.new w3 _ (.slice q d.length cq) true 30 rfl
  have E := E.keep hba
  have iq := iq.keep hba
  have hb := below_t hb hba
  clear hba
  go_wp2_with fail
  refine (Read_lit (some ⟨g, 0, none⟩) _ 0 (-1) p none c 0 0 d true h1b _ (h.keep hb) (by omega)).mono ?_
  rintro e4 w4 ⟨⟨r, cr, rfl, ir⟩, hb4⟩
  have S := S.keep hb4
  have iq := iq.keep hb4
  have hb := below_t hb hb4
  clear hb4
  have hba := below_alloc w4 (.cells #[.slice r d.length cr, .bool true] 30)
  have T := Sp2.new w4 _ (.slice r d.length cr) true 30 rfl
  have S := S.keep hba
  have iq := iq.keep hba
  have ir := ir.keep hba
  have hb := below_t hb hba
  clear hba
  clear E
  have s0 := S.c0
  have s1 := S.c1
  have t0 := T.c0
  have t1 := T.c1
  go_wp2_with fail
  clear s0 s1 t0 t1
  refine (SpSame_yes q r cq cr d true _ iq ir (by omega)).mono ?_
  rintro e5 w5 ⟨rfl, hb5⟩
  have S := S.keep hb5
  have iq := iq.keep hb5
  have hb := below_t hb hb5
  clear hb5
  have s0 := S.c0
  have s1 := S.c1
  go_wp2_with fail
  clear s0 s1
  refine (SpSame_yes q p cq c d true _ iq (h.keep hb) (by omega)).mono ?_
  rintro e6 w6 ⟨rfl, hb6⟩
  have hb := below_t hb hb6
  clear hb6
  go_wp2_with fail
  go_ret
  exact ⟨rfl, hb⟩

theorem SpecNames_law (p : Option Addr) (c : Nat) (d : List Int) (sc : Bool) (w : World) (h : Ints w p d) :
    Calls Try.prog 10 #[.slice p d.length c, .bool sc] w fun e w' => e = .returned (.bool true) ∧ Below w.heap.size w w' := by
  have hsm := h.small
  have go (x : Bool) (hx : (decide (300 < (d.length : Int)) || (sc != ((d.length : Int) == 1))) = true) : Calls Try.prog 10 #[.slice p d.length c, .bool sc] w fun e w' => e = .returned (.bool true) ∧ Below w.heap.size w w' := by
    cases hd : decide (300 < (d.length : Int)) with
    | true =>
      clear hx
      go_enter Try.func10, Try.ntmps10
      go_wp2_with fail
      refine (awake12 _).mono ?_
      rintro e1 w1 ⟨rfl, hb⟩
      go_wp2_with fail
      refine (awake12 _).mono ?_
      rintro e2 w2 ⟨rfl, hb1⟩
      have hb := below_t hb hb1
      clear hb1
      go_wp2_with fail
      go_ret
      exact ⟨rfl, hb⟩
    | false =>
      rw [hd, Bool.false_or] at hx
      cases sc with
      | true =>
        have he : ((d.length : Int) == 1) = false := by
          cases he : ((d.length : Int) == 1) with
          | false => rfl
          | true => rw [he] at hx; cases hx
        clear hx
        go_enter Try.func10, Try.ntmps10
        go_wp2_with fail
        refine (awake12 _).mono ?_
        rintro e1 w1 ⟨rfl, hb⟩
        go_wp2_with fail
        refine (awake12 _).mono ?_
        rintro e2 w2 ⟨rfl, hb1⟩
        have hb := below_t hb hb1
        clear hb1
        go_wp2_with fail
        go_ret
        exact ⟨rfl, hb⟩
      | false =>
        have he : ((d.length : Int) == 1) = true := by
          cases he : ((d.length : Int) == 1) with
          | true => rfl
          | false => rw [he] at hx; cases hx
        clear hx
        go_enter Try.func10, Try.ntmps10
        go_wp2_with fail
        refine (awake12 _).mono ?_
        rintro e1 w1 ⟨rfl, hb⟩
        go_wp2_with fail
        refine (awake12 _).mono ?_
        rintro e2 w2 ⟨rfl, hb1⟩
        have hb := below_t hb hb1
        clear hb1
        go_wp2_with fail
        go_ret
        exact ⟨rfl, hb⟩
  by_cases hl : 300 < d.length
  · exact go true (by rw [decide_eq_true (by omega)]; rfl)
  · by_cases h1 : d.length = 1
    · cases sc with
      | true => exact SpecNames_scalar p c d w h (by omega) h1
      | false => exact go true (by rw [h1]; rfl)
    · cases sc with
      | true => exact go true (by
        have : ((d.length : Int) == 1) = false := by simp; omega
        rw [this]
        simp)
      | false => exact SpecNames_vec p c d w h (by omega) h1
end Go.Proofs.Ytolkgjbljdmadaa
