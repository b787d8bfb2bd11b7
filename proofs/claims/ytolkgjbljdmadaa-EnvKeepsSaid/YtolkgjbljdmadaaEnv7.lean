/- What an environment gives: bound, Get, Shape. No condition beyond what each says. -/
import Derived.Test.YtolkgjbljdmadaaEnv6
namespace Go.Proofs.Ytolkgjbljdmadaa
open Go.RowKit Go.Shelf
set_option linter.unusedVariables false
set_option linter.unusedSimpArgs false

theorem EnvAt.keep {B g : Nat} {w w' : World} {cs : List BV} (h : EnvAt B w g cs) (hb : Below w.heap.size w w') : EnvAt B w' g cs := by
  obtain ⟨h1, ⟨p, c, m, h2, h3, h4, h5⟩, h6, h7⟩ := h
  exact ⟨h1, ⟨p, c, m, h2.keep hb h2.lt, h3.keep' hb, h4, h5.keep hb⟩, h6.keep hb, h7⟩
theorem Vals.ints {B : Nat} {w : World} {cs : List BV} (h : Vals B w cs) : ∀ b ∈ cs, Ints w b.sp b.s ∧ Ints w b.dp b.d ∧ b.name.size ≤ 9223372036854775807 := fun b hb =>
  let ⟨a1, a2, a3, a4, a5, a6, a7⟩ := h b hb
  ⟨a1.ints a3 (by omega), a2.ints a4 (by omega), a7⟩
theorem EnvAt.open {B g : Nat} {w : World} {cs : List BV} (h : EnvAt B w g cs) (hl : cs.length ≤ 1000000) : ∃ p c m, Own w g 98 [.slice p cs.length c, .map (some m)] ∧ Binds w p cs ∧ HasMap w m (cs.map BV.name) := by
  obtain ⟨h1, ⟨p, c, m, h2, h3, h4, h5⟩, h6, h7⟩ := h
  exact ⟨p, c, m, h2, ⟨h3.cells, h6.ints, by omega⟩, h5⟩
theorem EnvAt.place {B g : Nat} {w : World} {cs : List BV} (h : EnvAt B w g cs) {k : Nat} (hk : k < cs.length) : (cs.map BV.name)[k]? = some (bth cs k).name ∧ ∀ j, k < j → (cs.map BV.name)[j]? ≠ some (bth cs k).name :=
  names_yes (bs := cs) rfl (fun j _ => ⟨rfl, rfl, rfl⟩) (fun j hj => h.right j hj) hk rfl
theorem names_not {cs : List BV} {x : ByteArray} (h : ∀ j, j < cs.length → (bth cs j).name ≠ x) : x ∉ cs.map BV.name :=
  names_no (bs := cs) rfl (fun j _ => ⟨rfl, rfl, rfl⟩) h

set_option maxHeartbeats 2000000 in
theorem bound_yes {B g : Nat} {cs : List BV} {k : Nat} (hk : k < cs.length) (hl : cs.length ≤ 1000000) (x : ByteArray) (hx : (bth cs k).name = x) (w : World) (h : EnvAt B w g cs) :
    Calls Try.prog 58 #[.pointer (some ⟨g, 0, none⟩), .string x] w fun e w' =>
      e = .returned (.tuple #[.agg #[.slice (bth cs k).sp (bth cs k).s.length (bth cs k).sc, .slice (bth cs k).dp (bth cs k).d.length (bth cs k).dc], .bool true]) ∧ Below w.heap.size w w' := by
  obtain ⟨p, c, m, ho, hB, hm⟩ := h.open hl
  obtain ⟨f1, f2⟩ := h.place hk
  have hxs := (hB.vals _ (bth_mem hk)).2.2
  rw [hx] at f1 f2 hxs
  have F1 := Lib.hid f1
  have F2 := Lib.hid f2
  have HO := Own.made w w.heap.size [.slice none 0 0, .slice none 0 0] 47 rfl
  have hb := below_alloc w (.cells #[.slice none 0 0, .slice none 0 0] 47)
  obtain ⟨W, hW⟩ : ∃ W, w.alloc (.cells #[.slice none 0 0, .slice none 0 0] 47) = W := ⟨_, rfl⟩
  have HO : Own W w.heap.size 47 [.slice none 0 0, .slice none 0 0] := hW ▸ HO
  rw [hW] at hb
  have t0 := ho.cell (i := 0) rfl
  have t1 := ho.cell (i := 1) rfl
  have hgl := ho.lt
  have hgn : g ≠ w.heap.size := by omega
  have HM := Lib.hid (hm.keep hb)
  have hlw : w.heap.size < W.heap.size := HO.lt
  have HW := Lib.hid hW
  have ho := ho.keep hb ho.lt
  have hB := hB.keep hb
  clear hW f1 f2 hx hm
  go_enter Try.func58, Try.ntmps58
  go_wp2_with fail
  rw [HW.out]
  clear t0 t1
  refine (find_yes p cs.length c m _ x k F1.out F2.out hxs _ HM.out).mono ?_
  rintro e1 w1 ⟨rfl, hb1⟩
  have HO := HO.keep hb1 hlw
  have ho := ho.keep hb1 ho.lt
  have hB := hB.keep hb1
  have hb := below_t hb hb1
  obtain ⟨g2, off, rfl, hg0, c0, c1, c2⟩ := hB.at hk
  have t0 := ho.cell (i := 0) rfl
  have q0 := HO.cell (i := 0) rfl
  have q1 := HO.cell (i := 1) rfl
  have f0 := HO.frozen 0
  have f1 := HO.frozen 1
  have hki : (k : Int) < (cs.length : Int) := by omega
  obtain ⟨b, hb'⟩ : ∃ b, bth cs k = b := ⟨_, rfl⟩
  rw [hb'] at c0 c1 c2
  have HBE := Lib.hid hb'
  clear hb' hb1
  go_wp2_with fail
  refine bodyPost_ret (v := .tuple #[.agg #[.slice b.sp b.s.length b.sc, .slice b.dp b.d.length b.dc], .bool true]) (by simp [results, Try.results58, go_sem, q0, q1, f0, f1]) rfl ⟨by rw [HBE.out], ?_⟩
  exact below_set (below_set hb (Nat.le_refl _) 0 _) (Nat.le_refl _) 1 _

set_option maxHeartbeats 2000000 in
theorem bound_no {B g : Nat} {cs : List BV} (hl : cs.length ≤ 1000000) (x : ByteArray) (hx : ∀ j, j < cs.length → (bth cs j).name ≠ x) (hxs : x.size ≤ 9223372036854775807) (w : World) (h : EnvAt B w g cs) :
    Calls Try.prog 58 #[.pointer (some ⟨g, 0, none⟩), .string x] w fun e w' =>
      e = .returned (.tuple #[.agg #[.slice none 0 0, .slice none 0 0], .bool false]) ∧ Below w.heap.size w w' := by
  obtain ⟨p, c, m, ho, hB, hm⟩ := h.open hl
  have F1 := Lib.hid (names_not hx)
  have HO := Own.made w w.heap.size [.slice none 0 0, .slice none 0 0] 47 rfl
  have hb := below_alloc w (.cells #[.slice none 0 0, .slice none 0 0] 47)
  obtain ⟨W, hW⟩ : ∃ W, w.alloc (.cells #[.slice none 0 0, .slice none 0 0] 47) = W := ⟨_, rfl⟩
  have HO : Own W w.heap.size 47 [.slice none 0 0, .slice none 0 0] := hW ▸ HO
  rw [hW] at hb
  have t0 := ho.cell (i := 0) rfl
  have t1 := ho.cell (i := 1) rfl
  have hgl := ho.lt
  have hgn : g ≠ w.heap.size := by omega
  have HM := Lib.hid (hm.keep hb)
  have hlw : w.heap.size < W.heap.size := HO.lt
  have HW := Lib.hid hW
  clear hW hx hm
  go_enter Try.func58, Try.ntmps58
  go_wp2_with fail
  rw [HW.out]
  clear t0 t1
  refine (find_no p cs.length c m _ x F1.out hxs _ HM.out).mono ?_
  rintro e1 w1 ⟨rfl, hb1⟩
  have HO := HO.keep hb1 hlw
  have hb := below_t hb hb1
  have q0 := HO.cell (i := 0) rfl
  have q1 := HO.cell (i := 1) rfl
  have f0 := HO.frozen 0
  have f1 := HO.frozen 1
  clear hb1
  go_wp2_with fail
  refine bodyPost_ret (v := .tuple #[.agg #[.slice none 0 0, .slice none 0 0], .bool false]) (by simp [results, Try.results58, go_sem, q0, q1, f0, f1]) rfl ⟨rfl, ?_⟩
  exact below_set (below_set hb (Nat.le_refl _) 0 _) (Nat.le_refl _) 1 _
end Go.Proofs.Ytolkgjbljdmadaa
