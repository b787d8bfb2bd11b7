/- The reference's Bind; one, texts; Bind at a nil environment; when a changed list is right. No condition beyond what each says. -/
import Derived.Test.YtolkgjbljdmadaaEnv10
namespace Go.Proofs.Ytolkgjbljdmadaa
open Go.RowKit Go.Shelf
set_option linter.unusedVariables false
set_option linter.unusedSimpArgs false

theorem bth_set_same {cs : List BV} {k : Nat} (hk : k < cs.length) (b : BV) : bth (cs.set k b) k = b := by
  unfold bth
  simp [List.getD_eq_getElem?_getD, hk]
theorem bth_set_ne {cs : List BV} {j k : Nat} (h : j ≠ k) (b : BV) : bth (cs.set k b) j = bth cs j := by
  unfold bth
  simp [List.getD_eq_getElem?_getD, List.getElem?_set_ne (Ne.symm h)]
theorem right_set {cs : List BV} {k : Nat} (hk : k < cs.length) {b : BV} (hr : RightP cs) (hn : (bth cs k).name = b.name) (ho : okB b = true) : RightP (cs.set k b) := by
  have hname : ∀ j, (bth (cs.set k b) j).name = (bth cs j).name := fun j => by
    by_cases h : j = k
    · subst h; rw [bth_set_same hk, hn]
    · rw [bth_set_ne h]
  intro j hj
  rw [List.length_set] at hj
  refine ⟨?_, fun i hi => by rw [hname, hname]; exact (hr j hj).2 i hi⟩
  by_cases h : j = k
  · subst h; rw [bth_set_same hk]; exact ho
  · rw [bth_set_ne h]; exact (hr j hj).1
theorem right_snoc {cs : List BV} {b : BV} (hr : RightP cs) (hn : ∀ j, j < cs.length → (bth cs j).name ≠ b.name) (ho : okB b = true) : RightP (cs ++ [b]) := by
  intro j hj
  rw [List.length_append] at hj
  simp only [List.length_cons, List.length_nil] at hj
  by_cases h : j < cs.length
  · have := hr j h
    refine ⟨by rw [bth_append_left h]; exact this.1, fun i hi => by rw [bth_append_left h, bth_append_left (by omega)]; exact this.2 i hi⟩
  · have he : j = cs.length := by omega
    subst he
    refine ⟨by rw [bth_append_last]; exact ho, fun i hi => by rw [bth_append_last, bth_append_left hi]; exact hn i hi⟩
theorem not_right_set {cs : List BV} {k : Nat} (hk : k < cs.length) {b : BV} (ho : okB b = false) : ¬ RightP (cs.set k b) := fun h => by
  have := (h k (by simpa using hk)).1
  rw [bth_set_same hk, ho] at this
  cases this
theorem not_right_snoc {cs : List BV} {b : BV} (ho : okB b = false) : ¬ RightP (cs ++ [b]) := fun h => by
  have := (h cs.length (by simp)).1
  rw [bth_append_last, ho] at this
  cases this
theorem right_same {bs cs : List BV} (hs : SameB bs cs) (hr : RightP bs) : RightP cs := same_good hs.1.symm (fun j hj => hs.2 j hj) (fun j hj => hr j hj)
theorem SameB.symm {bs cs : List BV} (h : SameB bs cs) : SameB cs bs := ⟨h.1.symm, fun k hk => let ⟨a, b, c⟩ := h.2 k (by have := h.1; omega); ⟨a.symm, b.symm, c.symm⟩⟩
theorem SameB.trans {ds bs cs : List BV} (h : SameB ds bs) (k : SameB bs cs) : SameB ds cs := ⟨h.1.trans k.1, fun j hj => let ⟨a, b, c⟩ := h.2 j hj; let ⟨d, e, f⟩ := k.2 j (by have := h.1; omega); ⟨a.trans d, b.trans e, c.trans f⟩⟩
theorem SameB.refl (bs : List BV) : SameB bs bs := ⟨rfl, fun _ _ => ⟨rfl, rfl, rfl⟩⟩
theorem SameB.set {bs cs : List BV} (h : SameB bs cs) {k : Nat} (hk : k < bs.length) {b c : BV} (he : b.name = c.name ∧ b.s = c.s ∧ b.d = c.d) : SameB (bs.set k b) (cs.set k c) := by
  refine ⟨by simp [h.1], fun j hj => ?_⟩
  rw [List.length_set] at hj
  by_cases e : j = k
  · subst e; rw [bth_set_same hk, bth_set_same (by have := h.1; omega)]; exact he
  · rw [bth_set_ne e, bth_set_ne e]; exact h.2 j hj
theorem SameB.snoc {bs cs : List BV} (h : SameB bs cs) {b c : BV} (he : b.name = c.name ∧ b.s = c.s ∧ b.d = c.d) : SameB (bs ++ [b]) (cs ++ [c]) := by
  refine ⟨by simp [h.1], fun j hj => ?_⟩
  rw [List.length_append] at hj
  simp only [List.length_cons, List.length_nil] at hj
  by_cases e : j < bs.length
  · rw [bth_append_left e, bth_append_left (by have := h.1; omega)]; exact h.2 j e
  · have e1 : j = bs.length := by omega
    subst e1
    rw [bth_append_last, h.1, bth_append_last]
    exact he

theorem set_id {α : Type} {l : List α} {i : Nat} {v : α} (h : l[i]? = some v) : l.set i v = l := by
  apply List.ext_getElem?
  intro j
  rw [List.getElem?_set]
  split
  · rename_i e
    subst e
    have := (List.getElem?_eq_some_iff.1 h).1
    rw [if_pos this, h]
  · rfl

def BindsRet (cs : List BV) (w : World) (e : Ending) (w' : World) : Prop := (∃ q c, e = .returned (.slice q cs.length c) ∧ Binds w' q cs) ∧ Below w.heap.size w w'

set_option maxRecDepth 100000 in
set_option maxHeartbeats 4000000 in
theorem RBind_at {bs : List BV} {k : Nat} (hk : k < bs.length) (hl : bs.length ≤ 999999) (b : BV) (hx : (bth bs k).name = b.name) (hbef : ∀ j, j < k → (bth bs j).name ≠ b.name) (p : Option Addr) (c : Nat) (w : World) (h : Binds w p bs) (h1 : Ints w b.sp b.s) (h2 : Ints w b.dp b.d) :
    Calls Try.prog 31 #[.slice p bs.length c, .string b.name, .agg #[.slice b.sp b.s.length b.sc, .slice b.dp b.d.length b.dc]] w (BindsRet (bs.set k b) w) := by
  have HX := Lib.hid hx
  have HBEF := Lib.hid hbef
  have hb := below_alloc w (.cells #[.slice b.sp b.s.length b.sc, .slice b.dp b.d.length b.dc] 47)
  clear hx hbef
  have hb2 := below_t hb (below_alloc _ (.cells #[] 62))
  have hown0 : ((w.alloc (.cells #[.slice b.sp b.s.length b.sc, .slice b.dp b.d.length b.dc] 47)).alloc (.cells #[] 62)).ownsRow w.heap.size 62 3 (.slice (some ⟨w.heap.size + 1, 0, none⟩) 0 0) 0 [] := by
    have := World.ownsRow_lit (base := w.heap.size) (e := 62) (size := 3) (w.alloc (.cells #[.slice b.sp b.s.length b.sc, .slice b.dp b.d.length b.dc] 47)) #[] 0 (by simp) (by decide) (by rfl)
    simpa using this
  have hcl := (h.keep hb2).cells
  have a0 : ((w.alloc (.cells #[.slice b.sp b.s.length b.sc, .slice b.dp b.d.length b.dc] 47)).alloc (.cells #[] 62)).cell? ⟨w.heap.size, 0, none⟩ = some (.slice b.sp b.s.length b.sc) := by simp [go_sem]
  have a1 : ((w.alloc (.cells #[.slice b.sp b.s.length b.sc, .slice b.dp b.d.length b.dc] 47)).alloc (.cells #[] 62)).cell? ⟨w.heap.size, 1, none⟩ = some (.slice b.dp b.d.length b.dc) := by simp [go_sem]
  go_enter Try.func31, Try.ntmps31
  go_wp2_with (at_builtin; refine append_binds rfl _ _ rfl w.heap.size _ 0 [] rfl hown0 p c bs rfl hcl (by omega) (by simp; omega) ?_; intro v' w1 hown hg)
  rw [Nat.zero_add, List.nil_append] at hown
  obtain ⟨q, cq, rfl⟩ := row_form hown
  have hg0 : w.heap.size < ((w.alloc (.cells #[.slice b.sp b.s.length b.sc, .slice b.dp b.d.length b.dc] 47)).alloc (.cells #[] 62)).heap.size := by simp; omega
  have hg : ((w.alloc (.cells #[.slice b.sp b.s.length b.sc, .slice b.dp b.d.length b.dc] 47)).alloc (.cells #[] 62)).grownBy w1 (some (w.heap.size + 1)) := hg
  have hblk := hg.block w.heap.size hg0 (by simp)
  have a0 := (World.cell?_of_block (w := (w.alloc (.cells #[.slice b.sp b.s.length b.sc, .slice b.dp b.d.length b.dc] 47)).alloc (.cells #[] 62)) (a := ⟨w.heap.size, 0, none⟩) hblk).trans a0
  have a1 := (World.cell?_of_block (w := (w.alloc (.cells #[.slice b.sp b.s.length b.sc, .slice b.dp b.d.length b.dc] 47)).alloc (.cells #[] 62)) (a := ⟨w.heap.size, 1, none⟩) hblk).trans a1
  have hb1 : Below w.heap.size w w1 := hb2.grown hg (by simp; omega) (fun j hj => by cases hj; omega)
  have hN := row_new3 hown
  have hlt1 : w.heap.size < w1.heap.size := Nat.lt_of_lt_of_le hg0 hg.size
  clear hblk hg hb2 hb hcl hown0
  rcases hN with h0 | ⟨g2, rfl, hg2B, hon⟩
  · have := rowsB_len bs
    rw [h0] at this
    simp only [List.length_nil] at this
    omega
  clear hown
  go_loop [8] (fun i => ∃ j : Nat, j ≤ k ∧ i = .int .i64 j) (fun i => k - (intOf i).toNat)
  case atStart => exact ⟨0, Nat.zero_le _, rfl⟩
  case round =>
    obtain ⟨j, hj, rfl⟩ := hrel
    have hjl : j < bs.length := by omega
    have hji : (j : Int) < (bs.length : Int) := by omega
    have q0 : w1.cell? ⟨g2, j * 3, none⟩ = some (.string (bth bs j).name) := hon.cell (i := j * 3) (rowsB_at (j := 0) hjl (by omega))
    by_cases hjk : j < k
    · have hx := name_ne (HBEF.out j hjk)
      obtain ⟨x, hxx⟩ : ∃ x, (bth bs j).name = x := ⟨_, rfl⟩
      rw [hxx] at q0 hx
      clear hxx
      go_wp2_with fail
      go_round
      case rel => exact ⟨j + 1, by omega, by go_num⟩
      case measure => simp [intOf]; omega
    · have hje : j = k := by omega
      subst hje
      have hx := name_eq HX.out
      have q1 : w1.cell? ⟨g2, j * 3 + 1, none⟩ = some (.slice (bth bs j).sp (bth bs j).s.length (bth bs j).sc) := hon.cell (i := j * 3 + 1) (rowsB_at (j := 1) hk (by omega))
      have q2 : w1.cell? ⟨g2, j * 3 + 2, none⟩ = some (.slice (bth bs j).dp (bth bs j).d.length (bth bs j).dc) := hon.cell (i := j * 3 + 2) (rowsB_at (j := 2) hk (by omega))
      have r1 := hon.frozen (j * 3 + 1)
      have r2 := hon.frozen (j * 3 + 2)
      have hcl : (rowsB bs).length = 3 * bs.length := rowsB_len bs
      have hset := (hon.set (i := j * 3 + 1) (by omega) (.slice b.sp b.s.length b.sc)).set (i := j * 3 + 2) (by simp; omega) (.slice b.dp b.d.length b.dc)
      have hrs := rowsB_set hk b
      rw [set_id (l := rowsB bs) (i := j * 3) (v := .string b.name) (by have := rowsB_at (j := 0) hk (by omega); rw [Nat.add_zero] at this; rw [this, ← HX.out]; rfl)] at hrs
      rw [hrs] at hset
      have hbW := below_set (below_set hb1 hg2B (j * 3 + 1) (.slice b.sp b.s.length b.sc)) hg2B (j * 3 + 2) (.slice b.dp b.d.length b.dc)
      have hnm := (h.vals _ (bth_mem hk)).2.2
      rw [HX.out] at hnm
      have hlen : (bs.set j b).length = bs.length := by simp
      have HP : Hid (BindsRet (bs.set j b) w (.returned (.slice (some ⟨g2, 0, none⟩) bs.length cq)) ((w1.setCell ⟨g2, j * 3 + 1, none⟩ (.slice b.sp b.s.length b.sc)).setCell ⟨g2, j * 3 + 2, none⟩ (.slice b.dp b.d.length b.dc))) := by
        refine ⟨⟨some ⟨g2, 0, none⟩, cq, by rw [hlen], binds_of (B := w.heap.size) (.inr ⟨g2, rfl, hg2B, hset⟩) (fun x hx => ?_) (by omega)⟩, hbW⟩
        rcases List.mem_or_eq_of_mem_set hx with hx | rfl
        · obtain ⟨j1, j2, j3⟩ := h.vals x hx
          exact ⟨j1.keep hbW, j2.keep hbW, j3⟩
        · exact ⟨h1.keep hbW, h2.keep hbW, hnm⟩
      clear hset hbW hrs hcl hlen hb1
      go_wp2_with fail
      go_ret
      exact HP.out

set_option maxRecDepth 100000 in
set_option maxHeartbeats 4000000 in
theorem RBind_new {bs : List BV} (hl : bs.length ≤ 999999) (b : BV) (hbef : ∀ j, j < bs.length → (bth bs j).name ≠ b.name) (hxs : b.name.size ≤ 9223372036854775807) (p : Option Addr) (c : Nat) (w : World) (h : Binds w p bs) (h1 : Ints w b.sp b.s) (h2 : Ints w b.dp b.d) :
    Calls Try.prog 31 #[.slice p bs.length c, .string b.name, .agg #[.slice b.sp b.s.length b.sc, .slice b.dp b.d.length b.dc]] w (BindsRet (bs ++ [b]) w) := by
  have HBEF := Lib.hid hbef
  have hb := below_alloc w (.cells #[.slice b.sp b.s.length b.sc, .slice b.dp b.d.length b.dc] 47)
  clear hbef
  have hb2 := below_t hb (below_alloc _ (.cells #[] 62))
  have hown0 : ((w.alloc (.cells #[.slice b.sp b.s.length b.sc, .slice b.dp b.d.length b.dc] 47)).alloc (.cells #[] 62)).ownsRow w.heap.size 62 3 (.slice (some ⟨w.heap.size + 1, 0, none⟩) 0 0) 0 [] := by
    have := World.ownsRow_lit (base := w.heap.size) (e := 62) (size := 3) (w.alloc (.cells #[.slice b.sp b.s.length b.sc, .slice b.dp b.d.length b.dc] 47)) #[] 0 (by simp) (by decide) (by rfl)
    simpa using this
  have hcl := (h.keep hb2).cells
  have a0 : ((w.alloc (.cells #[.slice b.sp b.s.length b.sc, .slice b.dp b.d.length b.dc] 47)).alloc (.cells #[] 62)).cell? ⟨w.heap.size, 0, none⟩ = some (.slice b.sp b.s.length b.sc) := by simp [go_sem]
  have a1 : ((w.alloc (.cells #[.slice b.sp b.s.length b.sc, .slice b.dp b.d.length b.dc] 47)).alloc (.cells #[] 62)).cell? ⟨w.heap.size, 1, none⟩ = some (.slice b.dp b.d.length b.dc) := by simp [go_sem]
  go_enter Try.func31, Try.ntmps31
  go_wp2_with (at_builtin; refine append_binds rfl _ _ rfl w.heap.size _ 0 [] rfl hown0 p c bs rfl hcl (by omega) (by simp; omega) ?_; intro v' w1 hown hg)
  rw [Nat.zero_add, List.nil_append] at hown
  obtain ⟨q, cq, rfl⟩ := row_form hown
  have hg0 : w.heap.size < ((w.alloc (.cells #[.slice b.sp b.s.length b.sc, .slice b.dp b.d.length b.dc] 47)).alloc (.cells #[] 62)).heap.size := by simp; omega
  have hg : ((w.alloc (.cells #[.slice b.sp b.s.length b.sc, .slice b.dp b.d.length b.dc] 47)).alloc (.cells #[] 62)).grownBy w1 (some (w.heap.size + 1)) := hg
  have hblk := hg.block w.heap.size hg0 (by simp)
  have a0 := (World.cell?_of_block (w := (w.alloc (.cells #[.slice b.sp b.s.length b.sc, .slice b.dp b.d.length b.dc] 47)).alloc (.cells #[] 62)) (a := ⟨w.heap.size, 0, none⟩) hblk).trans a0
  have a1 := (World.cell?_of_block (w := (w.alloc (.cells #[.slice b.sp b.s.length b.sc, .slice b.dp b.d.length b.dc] 47)).alloc (.cells #[] 62)) (a := ⟨w.heap.size, 1, none⟩) hblk).trans a1
  have hb1 : Below w.heap.size w w1 := hb2.grown hg (by simp; omega) (fun j hj => by cases hj; omega)
  have hN := row_new3 hown
  have hlt1 : w.heap.size < w1.heap.size := Nat.lt_of_lt_of_le hg0 hg.size
  clear hblk hg hb2 hb hcl hown0
  go_loop [8] (fun i => ∃ j : Nat, j ≤ bs.length ∧ i = .int .i64 j) (fun i => bs.length - (intOf i).toNat)
  case atStart => exact ⟨0, Nat.zero_le _, rfl⟩
  case round =>
    obtain ⟨j, hj, rfl⟩ := hrel
    by_cases hjl : j < bs.length
    · have hji : (j : Int) < (bs.length : Int) := by omega
      rcases hN with h0 | ⟨g2, rfl, hg2B, hon⟩
      · have := rowsB_len bs
        rw [h0] at this
        simp only [List.length_nil] at this
        omega
      have q0 : w1.cell? ⟨g2, j * 3, none⟩ = some (.string (bth bs j).name) := hon.cell (i := j * 3) (rowsB_at (j := 0) hjl (by omega))
      have hx := name_ne (HBEF.out j hjl)
      obtain ⟨x, hxx⟩ : ∃ x, (bth bs j).name = x := ⟨_, rfl⟩
      rw [hxx] at q0 hx
      clear hxx hon hown
      go_wp2_with fail
      go_round
      case rel => exact ⟨j + 1, by omega, by go_num⟩
      case measure => simp [intOf]; omega
    · have hji : ¬ (j : Int) < (bs.length : Int) := by omega
      have hb1s := hb1.size
      have HR := Lib.hid hown
      clear hN hown
      go_wp2_with (at_builtin; refine append_bind rfl _ _ rfl w.heap.size _ bs.length _ rfl (HR.out.alloc _) (some ⟨w1.heap.size, 0, none⟩) 1 b.name b.sp b.dp b.s.length b.sc b.d.length b.dc rfl (cells_new _ _ [.string b.name, .slice b.sp b.s.length b.sc, .slice b.dp b.d.length b.dc] _ (by simp)) (by omega) (by simp; omega) ?_; intro v' w5 hown5 hg5)
      have hbW : Below w.heap.size w w5 := (below_t hb1 (below_alloc _ _)).grown hg5 (by simp; omega) fun j hj => (row_block HR.out hj.symm).choose_spec.2
      obtain ⟨q5, c5, rfl⟩ := row_form hown5
      have hown5 : w5.ownsRow w.heap.size 62 3 (.slice q5 (bs.length + 1) c5) (bs.length + 1) (rowsB (bs ++ [b])) := by rw [rowsB_append]; simpa [rowsB, BV.cells] using hown5
      have hlen : (bs ++ [b]).length = bs.length + 1 := by simp
      have HP : Hid (BindsRet (bs ++ [b]) w (.returned (.slice q5 (bs.length + 1) c5)) w5) := by
        refine ⟨⟨q5, c5, by rw [hlen], binds_of (B := w.heap.size) (row_new3 hown5) (fun x hx => ?_) (by omega)⟩, hbW⟩
        rcases List.mem_append.1 hx with hx | hx
        · obtain ⟨j1, j2, j3⟩ := h.vals x hx
          exact ⟨j1.keep hbW, j2.keep hbW, j3⟩
        · rw [List.mem_singleton] at hx
          subst hx
          exact ⟨h1.keep hbW, h2.keep hbW, hxs⟩
      clear hbW hown5 hlen hg5
      go_wp2_with fail
      go_ret
      exact HP.out
end Go.Proofs.Ytolkgjbljdmadaa
