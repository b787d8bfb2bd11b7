/- The law EnvMatchesReference, walked: it returns true at all arguments and writes nothing that was there. No condition. -/
import Derived.Test.YtolkgjbljdmadaaEnv13
namespace Go.Proofs.Ytolkgjbljdmadaa
open Go.RowKit Go.Shelf
set_option linter.unusedVariables false
set_option linter.unusedSimpArgs false

def ArrRet (s d : List Int) (r : Bool) (w : World) (e : Ending) (w' : World) : Prop := (∃ p c q f, e = .returned (.tuple #[.agg #[.slice p s.length c, .slice q d.length f], .bool r]) ∧ Ints w' p s ∧ Ints w' q d) ∧ Below w.heap.size w w'
def ShRet (s : List Int) (r : Bool) (w : World) (e : Ending) (w' : World) : Prop := (∃ p c, e = .returned (.tuple #[.slice p s.length c, .bool r]) ∧ Ints w' p s) ∧ Below w.heap.size w w'

theorem get_pair {bs cs : List BV} (hS : SameB bs cs) (hr : RightP bs) (hl : bs.length ≤ 999999) (x : ByteArray) (hx : x.size ≤ 9223372036854775807) : ∃ (s d : List Int) (r : Bool),
    (∀ B g W, EnvAt B W g cs → Calls Try.prog 32 #[.pointer (some ⟨g, 0, none⟩), .string x] W (ArrRet s d r W)) ∧
    (∀ p c W, Binds W p bs → Calls Try.prog 33 #[.slice p bs.length c, .string x] W (ArrRet s d r W)) ∧
    (∀ B g W, EnvAt B W g cs → Calls Try.prog 34 #[.pointer (some ⟨g, 0, none⟩), .string x] W (ShRet s r W)) := by
  have hlc := hS.1
  by_cases hE : ∃ k, k < bs.length ∧ (bth bs k).name = x
  · obtain ⟨k, hk, hkx⟩ := hE
    obtain ⟨e1, e2, e3⟩ := hS.2 k hk
    have hkc : k < cs.length := by omega
    have hcx : (bth cs k).name = x := e1.symm.trans hkx
    refine ⟨(bth cs k).s, (bth cs k).d, true, fun B g W h => ?_, fun p c W h => ?_, fun B g W h => ?_⟩
    · obtain ⟨a1, a2, a3, a4, a5, a6, a7⟩ := h.vals _ (bth_mem hkc)
      exact (Get_yes hkc (by omega) x hcx W h).mono fun e w' ⟨⟨p, c, q, f, h1, h2, h3⟩, hb⟩ => ⟨⟨p, c, q, f, h1, h2.ints a3 (by omega), h3.ints a4 (by omega)⟩, hb⟩
    · refine (RGet_yes p c bs x k hk hkx (fun j hj => ?_) W h).mono fun e w' ⟨h1, hb⟩ => ?_
      · rw [← hkx]; exact (hr k hk).2 j hj
      · obtain ⟨i1, i2, -⟩ := h.vals _ (bth_mem hk)
        rw [← e2, ← e3]
        exact ⟨⟨_, _, _, _, h1, i1.keep hb, i2.keep hb⟩, hb⟩
    · obtain ⟨a1, a2, a3, a4, a5, a6, a7⟩ := h.vals _ (bth_mem hkc)
      exact (Shape_yes hkc (by omega) x hcx W h).mono fun e w' ⟨⟨p, c, h1, h2⟩, hb⟩ => ⟨⟨p, c, h1, h2.ints a3 (by omega)⟩, hb⟩
  · have hno : ∀ j, j < bs.length → (bth bs j).name ≠ x := fun j hj h => hE ⟨j, hj, h⟩
    have hnc : ∀ j, j < cs.length → (bth cs j).name ≠ x := fun j hj h => hE ⟨j, by omega, (hS.2 j (by omega)).1.trans h⟩
    refine ⟨[], [], false, fun B g W h => ?_, fun p c W h => ?_, fun B g W h => ?_⟩
    · exact (Get_no (by omega) x hnc hx W h).mono fun e w' ⟨h1, hb⟩ => ⟨⟨none, 0, none, 0, h1, Ints.nil _, Ints.nil _⟩, hb⟩
    · exact (RGet_no p c bs x hno W h).mono fun e w' ⟨h1, hb⟩ => ⟨⟨none, 0, none, 0, h1, Ints.nil _, Ints.nil _⟩, hb⟩
    · exact (Shape_no (by omega) x hnc hx W h).mono fun e w' ⟨⟨p, c, h1⟩, hb⟩ => ⟨⟨p, c, h1, ⟨.inl rfl, by simp, by simp⟩⟩, hb⟩

theorem fewB_len {bs : List BV} {n : Int} (h : fewB bs n = true) : bs.length ≤ 12 := by
  unfold fewB at h
  rw [Bool.and_eq_true] at h
  exact of_decide_eq_true h.1
theorem Few_is (p : Option Addr) (c : Nat) (bs : List BV) (n : Int) (r : Bool) (hr : fewB bs n = r) (w : World) (h : Binds w p bs) :
    Calls Try.prog 22 #[.slice p bs.length c, .int .i64 n] w fun e w' => e = .returned (.bool r) ∧ Below w.heap.size w w' := hr ▸ Few_any p c bs n w h

set_option maxRecDepth 100000 in
set_option maxHeartbeats 4000000 in
theorem EnvMatches_few (p : Option Addr) (c : Nat) (bs : List BV) (x : ByteArray) (w : World) (h : Binds w p bs) (hf : fewB bs 300 = false) :
    Calls Try.prog 8 #[.slice p bs.length c, .string x] w fun e w' => e = .returned (.bool true) ∧ Below w.heap.size w w' := by
  have HF := Lib.hid hf
  clear hf
  go_enter Try.func8, Try.ntmps8
  go_wp2_with fail
  refine (awake11 _).mono ?_
  rintro e1 w1 ⟨rfl, hb⟩
  go_wp2_with fail
  refine (Few_is p c bs 300 false HF.out _ (h.keep hb)).mono ?_
  rintro e2 w2 ⟨rfl, hb1⟩
  have hb := below_t hb hb1
  clear hb1
  go_wp2_with fail
  refine (awake11 _).mono ?_
  rintro e3 w3 ⟨rfl, hb1⟩
  have hb := below_t hb hb1
  clear hb1
  go_wp2_with fail
  go_ret
  exact ⟨rfl, hb⟩

set_option maxRecDepth 100000 in
set_option maxHeartbeats 4000000 in
theorem EnvMatches_bad (p : Option Addr) (c : Nat) (bs : List BV) (x : ByteArray) (w : World) (h : Binds w p bs) (hf : fewB bs 300 = true) (hr : ¬ RightP bs) :
    Calls Try.prog 8 #[.slice p bs.length c, .string x] w fun e w' => e = .returned (.bool true) ∧ Below w.heap.size w w' := by
  have HF := Lib.hid hf
  have HR := Lib.hid hr
  have hl := fewB_len hf
  clear hf hr
  go_enter Try.func8, Try.ntmps8
  go_wp2_with fail
  refine (awake11 _).mono ?_
  rintro e1 w1 ⟨rfl, hb⟩
  go_wp2_with fail
  refine (Few_is p c bs 300 true HF.out _ (h.keep hb)).mono ?_
  rintro e2 w2 ⟨rfl, hb1⟩
  have hb := below_t hb hb1
  clear hb1
  go_wp2_with fail
  refine (New_no p c bs HR.out (by omega) _ (h.keep hb)).mono ?_
  rintro e3 w3 ⟨rfl, hb1⟩
  have hb := below_t hb hb1
  clear hb1
  go_wp2_with fail
  refine (Right_any false p c bs ⟨fun h => (by cases h), fun h => absurd h HR.out⟩ _ (h.keep hb)).mono ?_
  rintro e4 w4 ⟨rfl, hb1⟩
  have hb := below_t hb hb1
  clear hb1
  go_wp2_with fail
  go_ret
  exact ⟨rfl, hb⟩

set_option maxRecDepth 100000 in
set_option maxHeartbeats 4000000 in
theorem EnvMatches_good (p : Option Addr) (c : Nat) (bs : List BV) (x : ByteArray) (w : World) (h : Binds w p bs) (hx : x.size ≤ 9223372036854775807) (hf : fewB bs 300 = true) (hr : RightP bs) :
    Calls Try.prog 8 #[.slice p bs.length c, .string x] w fun e w' => e = .returned (.bool true) ∧ Below w.heap.size w w' := by
  have HF := Lib.hid hf
  have HR := Lib.hid hr
  have hl := fewB_len hf
  clear hf hr
  go_enter Try.func8, Try.ntmps8
  go_wp2_with fail
  refine (awake11 _).mono ?_
  rintro e1 w1 ⟨rfl, hb⟩
  go_wp2_with fail
  refine (Few_is p c bs 300 true HF.out _ (h.keep hb)).mono ?_
  rintro e2 w2 ⟨rfl, hb1⟩
  have hb := below_t hb hb1
  clear hb1
  go_wp2_with fail
  refine (New_yes p c bs HR.out (by omega) _ (h.keep hb)).mono ?_
  rintro e3 w3 ⟨⟨g, cs, rfl, E, hS⟩, hb1⟩
  have hb := below_t hb hb1
  clear hb1
  have hS0 := hS
  have HS := Lib.hid hS
  clear hS
  go_wp2_with fail
  refine (Right_any true p c bs ⟨fun _ => HR.out, fun _ => rfl⟩ _ (h.keep hb)).mono ?_
  rintro e4 w4 ⟨rfl, hb1⟩
  have E := E.keep hb1
  have hb := below_t hb hb1
  clear hb1
  have hlc : cs.length ≤ 12 := by have := hS0.1; omega
  obtain ⟨s, d, r, hG, hRG, hSh⟩ := get_pair hS0 HR.out (by omega) x hx
  have HG := Lib.hid hG
  have HRG := Lib.hid hRG
  have HSH := Lib.hid hSh
  have hrr : (r == r) = true := by cases r <;> rfl
  clear hG hRG hSh hS0
  go_wp2_with fail
  refine (HG.out _ _ _ E).mono ?_
  rintro e5 w5 ⟨⟨pa, ca, qa, fa, rfl, ia, ja⟩, hb1⟩
  have E := E.keep hb1
  have hb := below_t hb hb1
  clear hb1
  have hba := below_alloc w5 (.cells #[.slice pa s.length ca, .slice qa d.length fa] 47)
  have A0 : (w5.alloc (.cells #[.slice pa s.length ca, .slice qa d.length fa] 47)).cell? ⟨w5.heap.size, 0, none⟩ = some (.slice pa s.length ca) := by simp [go_sem]
  have A1 : (w5.alloc (.cells #[.slice pa s.length ca, .slice qa d.length fa] 47)).cell? ⟨w5.heap.size, 1, none⟩ = some (.slice qa d.length fa) := by simp [go_sem]
  have KA := Lib.hid (keeps_cells w5.heap.size (.slice pa s.length ca) (.slice qa d.length fa))
  have SA := Lib.hid (⟨by simp, A0, A1⟩ : (fun w' : World => w5.heap.size < w'.heap.size ∧ w'.cell? ⟨w5.heap.size, 0, none⟩ = some (.slice pa s.length ca) ∧ w'.cell? ⟨w5.heap.size, 1, none⟩ = some (.slice qa d.length fa)) (w5.alloc (.cells #[.slice pa s.length ca, .slice qa d.length fa] 47)))
  clear A0 A1
  have E := E.keep hba
  have ia := ia.keep hba
  have ja := ja.keep hba
  have hb := below_t hb hba
  clear hba
  go_wp2_with fail
  refine (HRG.out _ _ _ (h.keep hb)).mono ?_
  rintro e6 w6 ⟨⟨pw, cw, qw, fw, rfl, iw, jw⟩, hb1⟩
  have SA := Lib.hid (KA.out _ _ SA.out hb1)
  have E := E.keep hb1
  have ia := ia.keep hb1
  have ja := ja.keep hb1
  have hb := below_t hb hb1
  clear hb1
  have hba := below_alloc w6 (.cells #[.slice pw s.length cw, .slice qw d.length fw] 47)
  have A0 : (w6.alloc (.cells #[.slice pw s.length cw, .slice qw d.length fw] 47)).cell? ⟨w6.heap.size, 0, none⟩ = some (.slice pw s.length cw) := by simp [go_sem]
  have A1 : (w6.alloc (.cells #[.slice pw s.length cw, .slice qw d.length fw] 47)).cell? ⟨w6.heap.size, 1, none⟩ = some (.slice qw d.length fw) := by simp [go_sem]
  have KB := Lib.hid (keeps_cells w6.heap.size (.slice pw s.length cw) (.slice qw d.length fw))
  have SB := Lib.hid (⟨by simp, A0, A1⟩ : (fun w' : World => w6.heap.size < w'.heap.size ∧ w'.cell? ⟨w6.heap.size, 0, none⟩ = some (.slice pw s.length cw) ∧ w'.cell? ⟨w6.heap.size, 1, none⟩ = some (.slice qw d.length fw)) (w6.alloc (.cells #[.slice pw s.length cw, .slice qw d.length fw] 47)))
  clear A0 A1
  have SA := Lib.hid (KA.out _ _ SA.out hba)
  have E := E.keep hba
  have ia := ia.keep hba
  have ja := ja.keep hba
  have iw := iw.keep hba
  have jw := jw.keep hba
  have hb := below_t hb hba
  clear hba
  go_wp2_with fail
  refine (HSH.out _ _ _ E).mono ?_
  rintro e7 w7 ⟨⟨ps, cps, rfl, is⟩, hb1⟩
  have SA := Lib.hid (KA.out _ _ SA.out hb1)
  have SB := Lib.hid (KB.out _ _ SB.out hb1)
  have E := E.keep hb1
  have ia := ia.keep hb1
  have ja := ja.keep hb1
  have iw := iw.keep hb1
  have jw := jw.keep hb1
  have hb := below_t hb hb1
  clear hb1
  have a0 := SA.out.2.1
  have a1 := SA.out.2.2
  have c0 := SB.out.2.1
  have c1 := SB.out.2.2
  go_wp2_with fail
  clear a0 a1 c0 c1
  refine (RefAEqual_yes _ _ _ _ _ _ _ _ s d s d rfl rfl _ ia ja iw jw).mono ?_
  rintro e8 w8 ⟨rfl, hb1⟩
  have SB := Lib.hid (KB.out _ _ SB.out hb1)
  have E := E.keep hb1
  have is := is.keep hb1
  have iw := iw.keep hb1
  have hb := below_t hb hb1
  clear hb1
  have c0 := SB.out.2.1
  have c1 := SB.out.2.2
  go_wp2_with fail
  clear c0 c1
  refine (RefEqual_is s s true (by simp [eqS]) _ _ _ _ _ is iw).mono ?_
  rintro e9 w9 ⟨rfl, hb1⟩
  have E := E.keep hb1
  have hb := below_t hb hb1
  clear hb1
  clear SA SB KA KB ia ja
  go_wp2_with fail
  refine (Names_any (by omega) _ E).mono ?_
  rintro e10 w10 ⟨⟨qn, cn, rfl, hN⟩, hb1⟩
  have E := E.keep hb1
  have hb := below_t hb hb1
  clear hb1
  go_wp2_with fail
  refine (texts_yes qn p cn c cs bs HS.out.symm _ _ hN (h.keep hb)).mono ?_
  rintro e11 w11 ⟨rfl, hb1⟩
  have E := E.keep hb1
  have hb := below_t hb hb1
  clear hb1
  go_wp2_with fail
  refine (List_any (by omega) _ E).mono ?_
  rintro e12 w12 ⟨⟨ql, cl, ds, rfl, hL, hV, hSd⟩, hb1⟩
  have E := E.keep hb1
  have hb := below_t hb hb1
  clear hb1
  have HSD := Lib.hid (hSd.symm.trans HS.out.symm)
  have hld : ds.length = cs.length := hSd.1.symm
  have HBD := Lib.hid (binds_of hL hV.ints (by omega))
  rw [← hld]
  clear hSd hL hV hld
  go_wp2_with fail
  refine (BSame_yes ql p cl c ds bs HSD.out _ rfl _ HBD.out (h.keep hb)).mono ?_
  rintro e13 w13 ⟨rfl, hb1⟩
  have hb := below_t hb hb1
  clear hb1
  go_wp2_with fail
  go_ret
  exact ⟨rfl, hb⟩

theorem EnvMatchesReference_law (p : Option Addr) (c : Nat) (bs : List BV) (x : ByteArray) (w : World) (h : Binds w p bs) (hx : x.size ≤ 9223372036854775807) :
    Calls Try.prog 8 #[.slice p bs.length c, .string x] w fun e w' => e = .returned (.bool true) ∧ Below w.heap.size w w' := by
  cases hf : fewB bs 300 with
  | false => exact EnvMatches_few p c bs x w h hf
  | true =>
    by_cases hr : RightP bs
    · exact EnvMatches_good p c bs x w h hx hf hr
    · exact EnvMatches_bad p c bs x w h hf hr
end Go.Proofs.Ytolkgjbljdmadaa
