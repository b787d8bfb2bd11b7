/- slices.Clone of bindings; env's Bind. No condition beyond what each says. -/
import Derived.Test.YtolkgjbljdmadaaEnv9
namespace Go.Proofs.Ytolkgjbljdmadaa
open Go.RowKit Go.Shelf
set_option linter.unusedVariables false
set_option linter.unusedSimpArgs false

theorem rowsB_one (cs : List BV) : ∀ u ∈ rowsB cs, u.oneCell' = true := by
  induction cs with
  | nil => intro u hu; cases hu
  | cons b cs ih =>
    intro u hu
    rw [rowsB_cons, List.mem_append] at hu
    rcases hu with hu | hu
    · exact bind_one _ _ _ _ _ _ _ u hu
    · exact ih u hu
/-- 'append(own, bindings...)' at []Binding -/
theorem append_binds {w : World} {ops : Array Oper} {rest : List Oper} {o : Oper} {a : Act} {Q : Exit → Act → World → Prop} (hgd : o.guard = none) (s x : Operand)
    (ho : o.op = .call { callee := .builtin .append, args := #[s, x], argTypes := #[45, 45] })
    (base : Nat) (v : Value) (n : Nat) (xs : List Value) (hs : a.eval s = v) (hown : w.ownsRow base 62 3 v n xs)
    (p : Option Addr) (c : Nat) (cs : List BV) (hx : a.eval x = .slice p cs.length c) (hsrc : Cells w p (rowsB cs))
    (hbig : n + cs.length ≤ 1099511627776) (hbase : base ≤ w.heap.size)
    (h : ∀ v' w', w'.ownsRow base 62 3 v' (n + cs.length) (xs ++ rowsB cs) → w.grownBy w' v.ownBlock → wpList Try.prog ops Q rest (a.put o.dst v') w') : wpList Try.prog ops Q (o :: rest) a w :=
  wpList_append_src hgd s x 45 ho base 62 _ 3 64 Try.underlying45 info_bind rfl (by decide) v n xs hs hown p cs.length c _ hx (by rw [rowsB_len, Nat.mul_comm]) hsrc (rowsB_one cs) hbig (by omega) hbase h

def CloneB (cs : List BV) (w : World) (e : Ending) (w' : World) : Prop := (∃ q c', e = .returned (.slice q cs.length c') ∧ w'.ownsRow w.heap.size 62 3 (.slice q cs.length c') cs.length (rowsB cs)) ∧ Below w.heap.size w w'

set_option maxHeartbeats 1000000 in
theorem Clone_b (a : Option Addr) (c : Nat) (cs : List BV) (w : World) (h : Binds w a cs) (hl : cs.length ≤ 1000000) :
    Calls Try.prog 54 #[.slice a cs.length c] w (CloneB cs w) := by
  have heq := fun w n c => Lib.run_eql_slice_nil (P := Try.prog) w 45 62 a n c 0 0 Try.underlying45
  cases a with
  | none =>
    have hx : cs = [] := by
      rcases h.cells with h' | ⟨b, off, hp, _⟩
      · have := rowsB_len cs
        rw [h'] at this
        exact List.eq_nil_of_length_eq_zero (by simp only [List.length_nil] at this; omega)
      · cases hp
    subst hx
    go_enter Try.func54, Try.ntmps54
    go_wp2
    go_ret
    exact ⟨⟨none, 0, rfl, World.ownsRow_nil _ _ _ _⟩, Below.refl _ _⟩
  | some ad =>
    go_enter Try.func54, Try.ntmps54
    go_wp2_with (at_builtin; refine append_binds rfl _ _ rfl w.heap.size _ 0 [] rfl (World.ownsRow_lit w #[] 0 (Nat.le_refl _) (by decide) rfl) (some ad) c cs rfl ((h.cells.keep ((Below.refl _ _).alloc (Nat.le_refl _) _))) (by omega) (by simp) ?_; intro v' w1 hown hg)
    rw [Nat.zero_add, List.nil_append] at hown
    obtain ⟨p, c', rfl⟩ := row_form hown
    go_wp2
    go_ret
    exact ⟨⟨p, c', rfl, hown⟩, ((Below.refl _ w).alloc (Nat.le_refl _) _).grown hg (by simp) (fun k hk => by cases hk; exact Nat.le_refl _)⟩

theorem list_set_append {α : Type} (l r : List α) (i : Nat) (x : α) : (l ++ r).set (l.length + i) x = l ++ r.set i x := by
  rw [List.set_append_right _ _ (by omega)]
  congr 2
  omega
theorem rowsB_set {cs : List BV} {k : Nat} (hk : k < cs.length) (b : BV) : (((rowsB cs).set (k * 3) (.string b.name)).set (k * 3 + 1) (.slice b.sp b.s.length b.sc)).set (k * 3 + 2) (.slice b.dp b.d.length b.dc) = rowsB (cs.set k b) := by
  induction cs generalizing k with
  | nil => simp at hk
  | cons a cs ih =>
    have hl : a.cells.length = 3 := rfl
    cases k with
    | zero =>
      rw [List.set_cons_zero, rowsB_cons, rowsB_cons]
      rfl
    | succ k =>
      rw [List.set_cons_succ, rowsB_cons, rowsB_cons, ← ih (by simpa using hk)]
      have e0 : (k + 1) * 3 = a.cells.length + k * 3 := by rw [hl]; omega
      have e1 : (k + 1) * 3 + 1 = a.cells.length + (k * 3 + 1) := by rw [hl]; omega
      have e2 : (k + 1) * 3 + 2 = a.cells.length + (k * 3 + 2) := by rw [hl]; omega
      rw [e2, e1, e0, list_set_append, list_set_append, list_set_append]

theorem binds_of {B : Nat} {w : World} {cs : List BV} {q : Option Addr} (h : New B w q 62 (rowsB cs)) (hv : ∀ b ∈ cs, Ints w b.sp b.s ∧ Ints w b.dp b.d ∧ b.name.size ≤ 9223372036854775807) (hl : cs.length ≤ 1000001) : Binds w q cs :=
  ⟨h.cells, hv, by omega⟩

theorem EnvAt.mono {B B' g : Nat} {w : World} {cs : List BV} (h : EnvAt B w g cs) (hB : B' ≤ B) : EnvAt B' w g cs := by
  obtain ⟨h1, ⟨p, c, m, h2, h3, h4, h5⟩, h6, h7⟩ := h
  exact ⟨by omega, ⟨p, c, m, h2, h3.mono hB, by omega, h5⟩, h6.mono hB, h7⟩

set_option maxRecDepth 100000 in
set_option maxHeartbeats 4000000 in
theorem Bind_at {B g : Nat} {cs : List BV} {k : Nat} (hk : k < cs.length) (hl : cs.length ≤ 999999) (b : BV) (hx : (bth cs k).name = b.name) (w : World) (h : EnvAt B w g cs) (h1 : Ints w b.sp b.s) (h2 : Ints w b.dp b.d) :
    Calls Try.prog 26 #[.pointer (some ⟨g, 0, none⟩), .string b.name, .agg #[.slice b.sp b.s.length b.sc, .slice b.dp b.d.length b.dc]] w (NewPost (cs.set k b) w) := by
  have HX := Lib.hid hx
  have hb := below_t (below_alloc w (.cells #[.slice b.sp b.s.length b.sc, .slice b.dp b.d.length b.dc] 47)) (below_alloc _ (.cells #[.string b.name, .slice b.sp b.s.length b.sc, .slice b.dp b.d.length b.dc] 62))
  obtain ⟨W, hW⟩ : ∃ W, (w.alloc (.cells #[.slice b.sp b.s.length b.sc, .slice b.dp b.d.length b.dc] 47)).alloc (.cells #[.string b.name, .slice b.sp b.s.length b.sc, .slice b.dp b.d.length b.dc] 62) = W := ⟨_, rfl⟩
  have b0 : W.cell? ⟨w.heap.size + 1, 0, none⟩ = some (.string b.name) := by rw [← hW]; simp [go_sem]
  have b1 : W.cell? ⟨w.heap.size + 1, 1, none⟩ = some (.slice b.sp b.s.length b.sc) := by rw [← hW]; simp [go_sem]
  have b2 : W.cell? ⟨w.heap.size + 1, 2, none⟩ = some (.slice b.dp b.d.length b.dc) := by rw [← hW]; simp [go_sem]
  have hlt : w.heap.size + 1 < W.heap.size := by rw [← hW]; simp
  rw [hW] at hb
  have HW := Lib.hid hW
  have hE := h.keep hb
  obtain ⟨p, c, m, ho0, -, -⟩ := h.open (by omega)
  have s0 := ho0.cell (i := 0) rfl
  have hgl := ho0.lt
  have hg1 : g ≠ w.heap.size := by omega
  have hg2 : g ≠ w.heap.size + 1 := by omega
  obtain ⟨p', c', m, ho, hB, hm⟩ := hE.open (by omega)
  have e0 := ho.cell (i := 0) rfl
  rw [hb.cell (p := ⟨g, 0, none⟩) hgl, s0] at e0
  cases e0
  clear hx hW
  go_enter Try.func26, Try.ntmps26
  go_wp2_with fail
  rw [HW.out]
  clear s0
  refine (Clone_b p c cs _ hB (by omega)).mono ?_
  rintro e1 w1 ⟨⟨q, cq, rfl, hrow⟩, hb1⟩
  have ho1 := ho.keep hb1 ho.lt
  have t0 := ho1.cell (i := 0) rfl
  have t1 := ho1.cell (i := 1) rfl
  have b0 := (hb1.cell (p := ⟨w.heap.size + 1, 0, none⟩) hlt).trans b0
  have b1 := (hb1.cell (p := ⟨w.heap.size + 1, 1, none⟩) hlt).trans b1
  have b2 := (hb1.cell (p := ⟨w.heap.size + 1, 2, none⟩) hlt).trans b2
  have hm1 := hm.keep hb1
  have hE1 := hE.keep hb1
  obtain ⟨f1, f2⟩ := hE1.place hk
  have hxs := (hB.vals _ (bth_mem hk)).2.2
  rw [HX.out] at f1 f2 hxs
  have hlt1 := Nat.lt_of_lt_of_le hlt hb1.size
  have F1 := Lib.hid f1
  have F2 := Lib.hid f2
  clear f1 f2
  go_wp2_with fail
  clear t0 t1
  refine (find_yes p cs.length c m _ b.name k F1.out F2.out hxs _ hm1).mono ?_
  rintro e2 w2 ⟨rfl, hb2⟩
  have b0 := (hb2.cell (p := ⟨w.heap.size + 1, 0, none⟩) hlt1).trans b0
  have b1 := (hb2.cell (p := ⟨w.heap.size + 1, 1, none⟩) hlt1).trans b1
  have b2 := (hb2.cell (p := ⟨w.heap.size + 1, 2, none⟩) hlt1).trans b2
  have hE2 := hE1.keep hb2
  have hb02 := below_t (below_t hb hb1) hb2
  have hW2 := below_t hb1 hb2
  have hN := (row_new3 hrow).keep' hb2
  rcases hN with h0 | ⟨g2, rfl, hg2B, hon⟩
  · have := rowsB_len cs
    rw [h0] at this
    simp only [List.length_nil] at this
    omega
  have hki : (k : Int) < (cs.length : Int) := by omega
  have q0 : w2.cell? ⟨g2, k * 3, none⟩ = some (.string (bth cs k).name) := hon.cell (i := k * 3) (rowsB_at (j := 0) hk (by omega))
  have q1 : w2.cell? ⟨g2, k * 3 + 1, none⟩ = some (.slice (bth cs k).sp (bth cs k).s.length (bth cs k).sc) := hon.cell (i := k * 3 + 1) (rowsB_at (j := 1) hk (by omega))
  have q2 : w2.cell? ⟨g2, k * 3 + 2, none⟩ = some (.slice (bth cs k).dp (bth cs k).d.length (bth cs k).dc) := hon.cell (i := k * 3 + 2) (rowsB_at (j := 2) hk (by omega))
  have r0 := hon.frozen (k * 3)
  have r1 := hon.frozen (k * 3 + 1)
  have r2 := hon.frozen (k * 3 + 2)
  have hcl : (rowsB cs).length = 3 * cs.length := rowsB_len cs
  have hset := ((hon.set (i := k * 3) (by omega) (.string b.name)).set (i := k * 3 + 1) (by simp; omega) (.slice b.sp b.s.length b.sc)).set (i := k * 3 + 2) (by simp; omega) (.slice b.dp b.d.length b.dc)
  rw [rowsB_set hk b] at hset
  have hlW : w.heap.size ≤ W.heap.size := by omega
  have hbs : Below w2.heap.size w2 w2 := Below.refl _ _
  have hbW : Below W.heap.size W (((w2.setCell ⟨g2, k * 3, none⟩ (.string b.name)).setCell ⟨g2, k * 3 + 1, none⟩ (.slice b.sp b.s.length b.sc)).setCell ⟨g2, k * 3 + 2, none⟩ (.slice b.dp b.d.length b.dc)) := below_set (below_set (below_set hW2 hg2B _ _) hg2B _ _) hg2B _ _
  obtain ⟨W3, hW3⟩ : ∃ W3, ((w2.setCell ⟨g2, k * 3, none⟩ (.string b.name)).setCell ⟨g2, k * 3 + 1, none⟩ (.slice b.sp b.s.length b.sc)).setCell ⟨g2, k * 3 + 2, none⟩ (.slice b.dp b.d.length b.dc) = W3 := ⟨_, rfl⟩
  rw [hW3] at hset hbW
  have hlen : (cs.set k b).length = cs.length := by simp
  have HB3 : Hid (Binds W3 (some ⟨g2, 0, none⟩) (cs.set k b)) := by
    refine binds_of (B := W.heap.size) (.inr ⟨g2, rfl, hg2B, hset⟩) (fun x hx => ?_) (by omega)
    rcases List.mem_or_eq_of_mem_set hx with hx | rfl
    · obtain ⟨j1, j2, j3⟩ := hB.vals x hx
      exact ⟨j1.keep hbW, j2.keep hbW, j3⟩
    · exact ⟨(h1.keep hb).keep hbW, (h2.keep hb).keep hbW, hxs⟩
  have HW3 := Lib.hid hW3
  have hbb := below_t hb hbW
  have HNEW := Lib.hid (New_any (some ⟨g2, 0, none⟩) cq (cs.set k b) (by omega) W3 HB3.out)
  rw [hlen] at HNEW
  clear hset hbW hW3 hb2 hb1 hE hE1 hE2 hb02 hW2 hm1 hB hlen hcl hrow hbs
  go_wp2_with fail
  rw [HW3.out]
  refine (HNEW.out).mono ?_
  rintro e4 w4 ⟨hp, hb4⟩
  have hb5 := below_t hbb hb4
  rcases hp with ⟨hr, g', ds, rfl, hE', hS⟩ | ⟨hr, rfl⟩
  · have HR := Lib.hid (newPost_yes hr (hE'.mono hbb.size) hS hb5)
    clear hr hE' hS
    go_wp2_with fail
    go_ret2
    exact HR.out
  · have HR := Lib.hid (newPost_no hr hb5)
    clear hr
    go_wp2_with fail
    go_ret2
    exact HR.out
set_option maxRecDepth 100000 in
set_option maxHeartbeats 4000000 in
theorem Bind_new {B g : Nat} {cs : List BV} (hl : cs.length ≤ 999999) (b : BV) (hx : ∀ j, j < cs.length → (bth cs j).name ≠ b.name) (hxs : b.name.size ≤ 9223372036854775807) (w : World) (h : EnvAt B w g cs) (h1 : Ints w b.sp b.s) (h2 : Ints w b.dp b.d) :
    Calls Try.prog 26 #[.pointer (some ⟨g, 0, none⟩), .string b.name, .agg #[.slice b.sp b.s.length b.sc, .slice b.dp b.d.length b.dc]] w (NewPost (cs ++ [b]) w) := by
  have HX := Lib.hid hx
  have hb := below_t (below_alloc w (.cells #[.slice b.sp b.s.length b.sc, .slice b.dp b.d.length b.dc] 47)) (below_alloc _ (.cells #[.string b.name, .slice b.sp b.s.length b.sc, .slice b.dp b.d.length b.dc] 62))
  obtain ⟨W, hW⟩ : ∃ W, (w.alloc (.cells #[.slice b.sp b.s.length b.sc, .slice b.dp b.d.length b.dc] 47)).alloc (.cells #[.string b.name, .slice b.sp b.s.length b.sc, .slice b.dp b.d.length b.dc] 62) = W := ⟨_, rfl⟩
  have b0 : W.cell? ⟨w.heap.size + 1, 0, none⟩ = some (.string b.name) := by rw [← hW]; simp [go_sem]
  have b1 : W.cell? ⟨w.heap.size + 1, 1, none⟩ = some (.slice b.sp b.s.length b.sc) := by rw [← hW]; simp [go_sem]
  have b2 : W.cell? ⟨w.heap.size + 1, 2, none⟩ = some (.slice b.dp b.d.length b.dc) := by rw [← hW]; simp [go_sem]
  have hlt : w.heap.size + 1 < W.heap.size := by rw [← hW]; simp
  rw [hW] at hb
  have HW := Lib.hid hW
  have hE := h.keep hb
  obtain ⟨p, c, m, ho0, -, -⟩ := h.open (by omega)
  have s0 := ho0.cell (i := 0) rfl
  have hgl := ho0.lt
  have hg1 : g ≠ w.heap.size := by omega
  have hg2 : g ≠ w.heap.size + 1 := by omega
  obtain ⟨p', c', m, ho, hB, hm⟩ := hE.open (by omega)
  have e0 := ho.cell (i := 0) rfl
  rw [hb.cell (p := ⟨g, 0, none⟩) hgl, s0] at e0
  cases e0
  clear hx hW
  go_enter Try.func26, Try.ntmps26
  go_wp2_with fail
  rw [HW.out]
  clear s0
  refine (Clone_b p c cs _ hB (by omega)).mono ?_
  rintro e1 w1 ⟨⟨q, cq, rfl, hrow⟩, hb1⟩
  have ho1 := ho.keep hb1 ho.lt
  have t0 := ho1.cell (i := 0) rfl
  have t1 := ho1.cell (i := 1) rfl
  have b0 := (hb1.cell (p := ⟨w.heap.size + 1, 0, none⟩) hlt).trans b0
  have b1 := (hb1.cell (p := ⟨w.heap.size + 1, 1, none⟩) hlt).trans b1
  have b2 := (hb1.cell (p := ⟨w.heap.size + 1, 2, none⟩) hlt).trans b2
  have hm1 := hm.keep hb1
  have hE1 := hE.keep hb1
  have hlt1 := Nat.lt_of_lt_of_le hlt hb1.size
  have F1 := Lib.hid (names_not HX.out)
  go_wp2_with fail
  clear t0 t1
  refine (find_no p cs.length c m _ b.name F1.out hxs _ hm1).mono ?_
  rintro e2 w2 ⟨rfl, hb2⟩
  have b0 := (hb2.cell (p := ⟨w.heap.size + 1, 0, none⟩) hlt1).trans b0
  have b1 := (hb2.cell (p := ⟨w.heap.size + 1, 1, none⟩) hlt1).trans b1
  have b2 := (hb2.cell (p := ⟨w.heap.size + 1, 2, none⟩) hlt1).trans b2
  have hE2 := hE1.keep hb2
  have hb02 := below_t (below_t hb hb1) hb2
  have hW2 := below_t hb1 hb2
  have hrow2 : w2.ownsRow W.heap.size 62 3 (.slice q cs.length cq) cs.length (rowsB cs) := row_chg hrow (S := fun _ => False) (Chg.of_below hb2) (fun _ _ _ h => h)
  have hlW : w.heap.size ≤ W.heap.size := by omega
  have hWs := hW2.size
  clear hb2 hb1 hE hE1 hE2 hm1 hrow hb02
  go_wp2_with (at_builtin; refine append_bind rfl _ _ rfl W.heap.size _ cs.length _ rfl (hrow2.alloc _) (some ⟨w2.heap.size, 0, none⟩) 1 b.name b.sp b.dp b.s.length b.sc b.d.length b.dc rfl (cells_new _ _ [.string b.name, .slice b.sp b.s.length b.sc, .slice b.dp b.d.length b.dc] _ (by simp)) (by omega) (by simp; omega) ?_; intro v' w5 hown5 hg5)
  have hbW : Below W.heap.size W w5 := (below_t hW2 (below_alloc _ _)).grown hg5 (by simp; omega) fun j hj => (row_block hrow2 hj.symm).choose_spec.2
  obtain ⟨q5, c5, rfl⟩ := row_form hown5
  have hlen : (cs ++ [b]).length = cs.length + 1 := by simp
  have hown5 : w5.ownsRow W.heap.size 62 3 (.slice q5 (cs.length + 1) c5) (cs.length + 1) (rowsB (cs ++ [b])) := by rw [rowsB_append]; simpa [rowsB, BV.cells] using hown5
  have HB3 : Hid (Binds w5 q5 (cs ++ [b])) := by
    refine binds_of (row_new3 hown5) (fun x hx => ?_) (by omega)
    rcases List.mem_append.1 hx with hx | hx
    · obtain ⟨j1, j2, j3⟩ := hB.vals x hx
      exact ⟨j1.keep hbW, j2.keep hbW, j3⟩
    · rw [List.mem_singleton] at hx
      subst hx
      exact ⟨(h1.keep hb).keep hbW, (h2.keep hb).keep hbW, hxs⟩
  have hbb := below_t hb hbW
  have HNEW := Lib.hid (New_any q5 c5 (cs ++ [b]) (by omega) w5 HB3.out)
  rw [hlen] at HNEW
  clear hbW hB hlen hown5 hg5 hrow2 hW2
  go_wp2_with fail
  refine (HNEW.out).mono ?_
  rintro e4 w4 ⟨hp, hb4⟩
  have hb5 := below_t hbb hb4
  rcases hp with ⟨hr, g', ds, rfl, hE', hS⟩ | ⟨hr, rfl⟩
  · have HR := Lib.hid (newPost_yes hr (hE'.mono hbb.size) hS hb5)
    clear hr hE' hS
    go_wp2_with fail
    go_ret2
    exact HR.out
  · have HR := Lib.hid (newPost_no hr hb5)
    clear hr
    go_wp2_with fail
    go_ret2
    exact HR.out
end Go.Proofs.Ytolkgjbljdmadaa
