/- env's Get and Shape. No condition beyond what each says. -/
import Derived.Test.YtolkgjbljdmadaaEnv7
namespace Go.Proofs.Ytolkgjbljdmadaa
open Go.RowKit Go.Shelf
set_option linter.unusedVariables false
set_option linter.unusedSimpArgs false

theorem vals_at {B : Nat} {w : World} {cs : List BV} (h : Vals B w cs) {k : Nat} (hk : k < cs.length) : Ints w (bth cs k).sp (bth cs k).s ∧ Ints w (bth cs k).dp (bth cs k).d ∧ (bth cs k).s.length ≤ 1000000 ∧ (bth cs k).d.length ≤ 1000000 := by
  obtain ⟨a1, a2, a3, a4, a5, a6, a7⟩ := h _ (bth_mem hk)
  exact ⟨a1.ints a3 (by omega), a2.ints a4 (by omega), a5, a6⟩

set_option maxHeartbeats 2000000 in
theorem Get_yes {B g : Nat} {cs : List BV} {k : Nat} (hk : k < cs.length) (hl : cs.length ≤ 1000000) (x : ByteArray) (hx : (bth cs k).name = x) (w : World) (h : EnvAt B w g cs) :
    Calls Try.prog 32 #[.pointer (some ⟨g, 0, none⟩), .string x] w fun e w' =>
      (∃ p c q f, e = .returned (.tuple #[.agg #[.slice p (bth cs k).s.length c, .slice q (bth cs k).d.length f], .bool true]) ∧ New w.heap.size w' p 3 ((bth cs k).s.map (.int .i64)) ∧ New w.heap.size w' q 2 ((bth cs k).d.map (.int .i64))) ∧ Below w.heap.size w w' := by
  have HO := Own.made w w.heap.size [.slice none 0 0, .slice none 0 0] 47 rfl
  have hb := below_alloc w (.cells #[.slice none 0 0, .slice none 0 0] 47)
  obtain ⟨W, hW⟩ : ∃ W, w.alloc (.cells #[.slice none 0 0, .slice none 0 0] 47) = W := ⟨_, rfl⟩
  have HO : Own W w.heap.size 47 [.slice none 0 0, .slice none 0 0] := hW ▸ HO
  rw [hW] at hb
  have HE := h.keep hb
  have hlw : w.heap.size < W.heap.size := HO.lt
  have HW := Lib.hid hW
  have HX := Lib.hid hx
  clear hW hx
  go_enter Try.func32, Try.ntmps32
  go_wp2_with fail
  rw [HW.out]
  refine (bound_yes hk hl x HX.out _ HE).mono ?_
  rintro e1 w1 ⟨rfl, hb1⟩
  have HO := HO.keep hb1 hlw
  have HE := HE.keep hb1
  have hb := below_t hb hb1
  have hlw := Nat.lt_of_lt_of_le hlw hb1.size
  obtain ⟨i1, i2, s1, s2⟩ := vals_at HE.vals hk
  obtain ⟨b, hb'⟩ : ∃ b, bth cs k = b := ⟨_, rfl⟩
  rw [hb'] at i1 i2 s1 s2
  rw [hb']
  have HBE := Lib.hid hb'
  clear hb1 HX HE h
  have hba := below_alloc w1 (.cells #[.slice b.sp b.s.length b.sc, .slice b.dp b.d.length b.dc] 47)
  go_wp2_with fail
  refine (ArrayCopy_any b.sp b.dp b.sc b.dc b.s b.d _ (i1.keep hba) (i2.keep hba) (by omega) (by omega)).mono ?_
  rintro e2 w2 ⟨⟨p, c, q, f, rfl, hn1, hn2⟩, hb2⟩
  have HO := (HO.keep hba hlw).keep hb2 (by have := hba.size; omega)
  have hb := below_t hb (below_1 hb2)
  have q0 := HO.cell (i := 0) rfl
  have q1 := HO.cell (i := 1) rfl
  have f0 := HO.frozen 0
  have f1 := HO.frozen 1
  have k1 := ((hn1.other (a := ⟨w.heap.size, 0, none⟩) (by simp; omega) (.slice p b.s.length c)).other (a := ⟨w.heap.size, 1, none⟩) (by simp; omega) (.slice q b.d.length f)).mono (B' := w.heap.size) (by simp; omega)
  have k2 := ((hn2.other (a := ⟨w.heap.size, 0, none⟩) (by simp; omega) (.slice p b.s.length c)).other (a := ⟨w.heap.size, 1, none⟩) (by simp; omega) (.slice q b.d.length f)).mono (B' := w.heap.size) (by simp; omega)
  clear hb2 hba hn1 hn2
  go_wp2_with fail
  refine bodyPost_ret (v := .tuple #[.agg #[.slice p b.s.length c, .slice q b.d.length f], .bool true]) (by simp [results, Try.results32, go_sem, q0, q1, f0, f1]) rfl ⟨⟨p, c, q, f, by rw [HBE.out], by rw [HBE.out]; exact k1, by rw [HBE.out]; exact k2⟩, ?_⟩
  exact below_set (below_set hb (Nat.le_refl _) 0 _) (Nat.le_refl _) 1 _

set_option maxHeartbeats 2000000 in
theorem Get_no {B g : Nat} {cs : List BV} (hl : cs.length ≤ 1000000) (x : ByteArray) (hx : ∀ j, j < cs.length → (bth cs j).name ≠ x) (hxs : x.size ≤ 9223372036854775807) (w : World) (h : EnvAt B w g cs) :
    Calls Try.prog 32 #[.pointer (some ⟨g, 0, none⟩), .string x] w fun e w' =>
      e = .returned (.tuple #[.agg #[.slice none 0 0, .slice none 0 0], .bool false]) ∧ Below w.heap.size w w' := by
  have HO := Own.made w w.heap.size [.slice none 0 0, .slice none 0 0] 47 rfl
  have hb := below_alloc w (.cells #[.slice none 0 0, .slice none 0 0] 47)
  obtain ⟨W, hW⟩ : ∃ W, w.alloc (.cells #[.slice none 0 0, .slice none 0 0] 47) = W := ⟨_, rfl⟩
  have HO : Own W w.heap.size 47 [.slice none 0 0, .slice none 0 0] := hW ▸ HO
  rw [hW] at hb
  have HE := h.keep hb
  have hlw : w.heap.size < W.heap.size := HO.lt
  have HW := Lib.hid hW
  have HX := Lib.hid hx
  clear hW hx
  go_enter Try.func32, Try.ntmps32
  go_wp2_with fail
  rw [HW.out]
  refine (bound_no hl x HX.out hxs _ HE).mono ?_
  rintro e1 w1 ⟨rfl, hb1⟩
  have HO := HO.keep hb1 hlw
  have hb := below_t hb hb1
  have hlw := Nat.lt_of_lt_of_le hlw hb1.size
  have hne : w.heap.size ≠ w1.heap.size := by omega
  have q0 := HO.cell (i := 0) rfl
  have q1 := HO.cell (i := 1) rfl
  have f0 := HO.frozen 0
  have f1 := HO.frozen 1
  clear hb1 HX HE h
  go_wp2_with fail
  refine bodyPost_ret (v := .tuple #[.agg #[.slice none 0 0, .slice none 0 0], .bool false]) (by simp [results, Try.results32, go_sem, q0, q1, f0, f1, hne, hlw]) rfl ⟨rfl, ?_⟩
  have h2 := below_set (below_set hb (Nat.le_refl _) 0 (.slice none 0 0)) (Nat.le_refl _) 1 (.slice none 0 0)
  exact h2.alloc h2.size _

set_option maxHeartbeats 2000000 in
theorem Shape_yes {B g : Nat} {cs : List BV} {k : Nat} (hk : k < cs.length) (hl : cs.length ≤ 1000000) (x : ByteArray) (hx : (bth cs k).name = x) (w : World) (h : EnvAt B w g cs) :
    Calls Try.prog 34 #[.pointer (some ⟨g, 0, none⟩), .string x] w fun e w' =>
      (∃ p c, e = .returned (.tuple #[.slice p (bth cs k).s.length c, .bool true]) ∧ New w.heap.size w' p 3 ((bth cs k).s.map (.int .i64))) ∧ Below w.heap.size w w' := by
  have HX := Lib.hid hx
  clear hx
  go_enter Try.func34, Try.ntmps34
  go_wp2_with fail
  refine (bound_yes hk hl x HX.out _ h).mono ?_
  rintro e1 w1 ⟨rfl, hb1⟩
  have HE := h.keep hb1
  obtain ⟨i1, i2, s1, s2⟩ := vals_at HE.vals hk
  obtain ⟨b, hb'⟩ : ∃ b, bth cs k = b := ⟨_, rfl⟩
  rw [hb'] at i1 i2 s1 s2
  rw [hb']
  have HBE := Lib.hid hb'
  clear HX HE h
  have hba := below_alloc w1 (.cells #[.slice b.sp b.s.length b.sc, .slice b.dp b.d.length b.dc] 47)
  go_wp2_with fail
  refine (Clone_any b.sp b.sc b.s _ (i1.keep hba) s1).mono ?_
  rintro e2 w2 ⟨⟨p, c, rfl, hn⟩, hb2⟩
  have k1 := hn.mono (B' := w.heap.size) (by have := hb1.size; simp; omega)
  have hb := below_t hb1 (below_1 hb2)
  clear hb2 hba hn hb1
  go_wp2_with fail
  go_ret2
  refine ⟨⟨p, c, ?_, by rw [HBE.out]; exact k1⟩, hb⟩
  rw [HBE.out]
  rfl

set_option maxHeartbeats 2000000 in
theorem Shape_no {B g : Nat} {cs : List BV} (hl : cs.length ≤ 1000000) (x : ByteArray) (hx : ∀ j, j < cs.length → (bth cs j).name ≠ x) (hxs : x.size ≤ 9223372036854775807) (w : World) (h : EnvAt B w g cs) :
    Calls Try.prog 34 #[.pointer (some ⟨g, 0, none⟩), .string x] w fun e w' =>
      (∃ p c, e = .returned (.tuple #[.slice p 0 c, .bool false])) ∧ Below w.heap.size w w' := by
  have HX := Lib.hid hx
  clear hx
  go_enter Try.func34, Try.ntmps34
  go_wp2_with fail
  refine (bound_no hl x HX.out hxs _ h).mono ?_
  rintro e1 w1 ⟨rfl, hb1⟩
  clear HX h
  go_wp2_with fail
  refine (Clone_any none 0 [] _ (Ints.nil _) (by simp)).mono ?_
  rintro e2 w2 ⟨⟨p, c, rfl, hn⟩, hb2⟩
  have hb := below_t hb1 (below_1 hb2)
  clear hb2 hn hb1
  go_wp2_with fail
  go_ret2
  exact ⟨⟨p, c, rfl⟩, hb⟩
end Go.Proofs.Ytolkgjbljdmadaa
