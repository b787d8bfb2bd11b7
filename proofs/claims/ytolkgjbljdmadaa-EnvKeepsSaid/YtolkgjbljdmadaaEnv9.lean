/- env's Names and List. No condition beyond what each says. -/
import Derived.Test.YtolkgjbljdmadaaEnv8
namespace Go.Proofs.Ytolkgjbljdmadaa
open Go.RowKit Go.Shelf
set_option linter.unusedVariables false
set_option linter.unusedSimpArgs false

theorem info_str : (Try.prog.info? 9).map (fun i => (i.zero, i.size, i.bytes)) = some (some (.string ⟨#[]⟩), 1, 16) := by kernel_rfl
theorem str_one (x : ByteArray) : ∀ u ∈ [Value.string x], u.oneCell' = true := by
  intro u hu
  rw [List.mem_singleton] at hu
  subst hu
  rfl
/-- 'append(own, s)' at []string -/
theorem append_str {w : World} {ops : Array Oper} {rest : List Oper} {o : Oper} {a : Act} {Q : Exit → Act → World → Prop} (hgd : o.guard = none) (s x : Operand)
    (ho : o.op = .call { callee := .builtin .append, args := #[s, x], argTypes := #[70, 70] })
    (base : Nat) (v : Value) (n : Nat) (xs : List Value) (hs : a.eval s = v) (hown : w.ownsRow base 9 1 v n xs)
    (p : Option Addr) (c : Nat) (y : ByteArray) (hx : a.eval x = .slice p 1 c) (hsrc : Cells w p [.string y])
    (hbig : n + 1 ≤ 1099511627776) (hbase : base ≤ w.heap.size)
    (h : ∀ v' w', w'.ownsRow base 9 1 v' (n + 1) (xs ++ [.string y]) → w.grownBy w' v.ownBlock → wpList Try.prog ops Q rest (a.put o.dst v') w') : wpList Try.prog ops Q (o :: rest) a w :=
  wpList_append_src hgd s x 70 ho base 9 (.string ⟨#[]⟩) 1 16 Try.underlying70 info_str rfl (by decide) v n xs hs hown p 1 c _ hx (by simp) hsrc (str_one y) hbig (by omega) hbase h

def strsOf (cs : List BV) : List Value := cs.map fun b => .string b.name
theorem strs_take {cs : List BV} {k : Nat} (hk : k < cs.length) : strsOf (cs.take (k + 1)) = strsOf (cs.take k) ++ [.string (bth cs k).name] := by
  unfold strsOf
  rw [List.take_add_one, bth_get? hk, List.map_append]
  rfl
theorem strs_at {cs : List BV} {k : Nat} (hk : k < cs.length) : (strsOf cs)[k]? = some (.string (bth cs k).name) := by
  unfold strsOf
  rw [List.getElem?_map, bth_get? hk]
  rfl

theorem strsOf_len (cs : List BV) : (strsOf cs).length = cs.length := by simp [strsOf]
set_option maxHeartbeats 4000000 in
theorem Names_any {B g : Nat} {cs : List BV} (hl : cs.length ≤ 1000000) (w : World) (h : EnvAt B w g cs) :
    Calls Try.prog 37 #[.pointer (some ⟨g, 0, none⟩)] w fun e w' =>
      (∃ q c, e = .returned (.slice q cs.length c) ∧ New w.heap.size w' q 9 (strsOf cs)) ∧ Below w.heap.size w w' := by
  obtain ⟨p, c, m, ho, hB, hm⟩ := h.open hl
  have t0 := ho.cell (i := 0) rfl
  have hgl := ho.lt
  go_enter Try.func37, Try.ntmps37
  go_wp2_with fail
  go_loopw [3, 15] (fun o i wr => ∃ (k : Nat), k ≤ cs.length ∧ i = .int .i64 k ∧ wr.ownsRow w.heap.size 9 1 o k (strsOf (cs.take k)) ∧ Below w.heap.size w wr) (fun _ i _ => cs.length - (intOf i).toNat)
  case atStart => exact ⟨0, Nat.zero_le _, rfl, World.ownsRow_nil _ _ _ _, Below.refl _ _⟩
  case round =>
    obtain ⟨k, hk, rfl, hown, hbw⟩ := hrel
    have hbs := hbw.size
    by_cases hlt : k < cs.length
    · have hki : (k : Int) < (cs.length : Int) := by omega
      obtain ⟨g2, off, rfl, hg0, c0, c1, c2⟩ := (hB.keep hbw).at hlt
      have Htk := Lib.hid (strs_take hlt)
      obtain ⟨b, hb'⟩ : ∃ b, bth cs k = b := ⟨_, rfl⟩
      rw [hb'] at c0 c1 c2 Htk
      clear hb' t0
      go_wp2_with (at_builtin; refine append_str rfl _ _ rfl w.heap.size _ k _ rfl ((hown.alloc _).alloc _) (some ⟨wr.heap.size + 1, 0, none⟩) 1 b.name rfl (cells_one _ _ _ _ (by simp)) (by omega) (by simp; omega) ?_; intro v' w3 hown3 hg3)
      have hb3 : Below w.heap.size w w3 := ((below_t hbw (below_t (below_alloc _ _) (below_alloc _ _))).grown hg3 (by simp; omega)) fun j hj => (hown.lt j hj).1
      go_roundw
      case rel => exact ⟨k + 1, by omega, by go_num, by rw [Htk.out]; exact hown3, hb3⟩
      case measure => simp [intOf]; omega
    · have hki : ¬ (k : Int) < (cs.length : Int) := by omega
      obtain ⟨q, cq, rfl, hnew⟩ := row_new hown
      have e : strsOf (cs.take k) = strsOf cs := by rw [List.take_of_length_le (by omega)]
      have e2 : (strsOf cs).length = cs.length := by simp [strsOf]
      rw [e, e2]
      rw [e] at hnew
      clear e e2 t0
      go_wp2_with fail
      go_ret
      first | exact ⟨⟨q, ⟨cq, rfl⟩, hnew⟩, hbw⟩ | exact ⟨⟨q, cq, rfl, hnew⟩, hbw⟩

theorem cells_new (w : World) (b : Nat) (vs : List Value) (e : TypeId) (hb : b = w.heap.size) : Cells (w.alloc (.cells vs.toArray e)) (some ⟨b, 0, none⟩) vs := by
  subst hb
  refine .inr ⟨w.heap.size, 0, rfl, by simp, fun i u hu => ?_⟩
  have := heap_alloc_new w (.cells vs.toArray e)
  rw [cell_of_row _ _ _ _ _ _ this]
  simpa using hu
theorem bind_one (x : ByteArray) (p q : Option Addr) (n c m f : Nat) : ∀ u ∈ [Value.string x, .slice p n c, .slice q m f], u.oneCell' = true := by
  intro u hu
  simp only [List.mem_cons, List.mem_nil_iff, or_false] at hu
  rcases hu with rfl | rfl | rfl <;> rfl
/-- 'append(own, binding)' at []Binding -/
theorem append_bind {w : World} {ops : Array Oper} {rest : List Oper} {o : Oper} {a : Act} {Q : Exit → Act → World → Prop} (hgd : o.guard = none) (s x : Operand)
    (ho : o.op = .call { callee := .builtin .append, args := #[s, x], argTypes := #[45, 45] })
    (base : Nat) (v : Value) (n : Nat) (xs : List Value) (hs : a.eval s = v) (hown : w.ownsRow base 62 3 v n xs)
    (p : Option Addr) (c : Nat) (y : ByteArray) (p1 p2 : Option Addr) (n1 c1 n2 c2 : Nat) (hx : a.eval x = .slice p 1 c) (hsrc : Cells w p [.string y, .slice p1 n1 c1, .slice p2 n2 c2])
    (hbig : n + 1 ≤ 1099511627776) (hbase : base ≤ w.heap.size)
    (h : ∀ v' w', w'.ownsRow base 62 3 v' (n + 1) (xs ++ [.string y, .slice p1 n1 c1, .slice p2 n2 c2]) → w.grownBy w' v.ownBlock → wpList Try.prog ops Q rest (a.put o.dst v') w') : wpList Try.prog ops Q (o :: rest) a w :=
  wpList_append_src hgd s x 45 ho base 62 _ 3 64 Try.underlying45 info_bind rfl (by decide) v n xs hs hown p 1 c _ hx (by simp) hsrc (bind_one y p1 p2 n1 c1 n2 c2) hbig (by omega) hbase h

/-- bindings of the call's own -/
structure OwnBs (B : Nat) (wr : World) (k : Nat) (v : Value) (cs ds : List BV) : Prop where
  row : wr.ownsRow B 62 3 v k (rowsB ds)
  vals : Vals B wr ds
  len : ds.length = k
  same : ∀ j, j < k → (bth cs j).name = (bth ds j).name ∧ (bth cs j).s = (bth ds j).s ∧ (bth cs j).d = (bth ds j).d

theorem ownBs_next {B k : Nat} {a z : World} {v v' : Value} {cs ds : List BV} {o : Obj} (h : OwnBs B a k v cs ds) {b' : BV} (hv : Vals B a [b']) (hb' : (bth cs k).name = b'.name ∧ (bth cs k).s = b'.s ∧ (bth cs k).d = b'.d)
    (hg : (a.alloc o).grownBy z v.ownBlock) (hr : z.ownsRow B 62 3 v' (k + 1) (rowsB ds ++ b'.cells)) : OwnBs B z (k + 1) v' cs (ds ++ [b']) := by
  have hba := below_alloc a o
  have hrow := h.row.alloc o
  have hc := Chg.grown hg
  have hvv := (h.vals.append hv).keep hba
  refine ⟨by rw [rowsB_append]; simpa [rowsB] using hr, hvv.chg hc (fun j ds' hj hs => ?_) (fun j ds' hj hs => ?_), by simp [h.len], fun j hj => ?_⟩
  · obtain ⟨cs', h1, -⟩ := row_block hrow hs
    rw [hj] at h1
    cases h1
  · obtain ⟨cs', h1, -⟩ := row_block hrow hs
    rw [hj] at h1
    cases h1
  · by_cases hk : j < k
    · rw [bth_append_left (by rw [h.len]; exact hk)]
      exact h.same j hk
    · have he : j = ds.length := by have := h.len; omega
      rw [he, bth_append_last, h.len]
      exact hb'
theorem OwnBs.keep {B k : Nat} {a z : World} {v : Value} {cs ds : List BV} (h : OwnBs B a k v cs ds) (hb : Below a.heap.size a z) : OwnBs B z k v cs ds :=
  ⟨row_chg h.row (S := fun _ => False) (Chg.of_below hb) (fun _ _ _ h => h), h.vals.keep hb, h.len, h.same⟩

theorem Vals.mono {B B' : Nat} {w : World} {cs : List BV} (h : Vals B w cs) (hB : B' ≤ B) : Vals B' w cs := fun x hx => let ⟨a1, a2, a3⟩ := h x hx; ⟨a1.mono hB, a2.mono hB, a3⟩
theorem row_mono {w : World} {B B' size n : Nat} {e : TypeId} {v : Value} {xs : List Value} (h : w.ownsRow B e size v n xs) (hB : B' ≤ B) : w.ownsRow B' e size v n xs := by
  obtain ⟨h1, h2⟩ := h
  refine ⟨h1, ?_⟩
  rcases h2 with h2 | ⟨g, cap, cur, rfl, hb, rest⟩
  · exact .inl h2
  · exact .inr ⟨g, cap, cur, rfl, by omega, rest⟩
theorem row_form {w : World} {B size n : Nat} {e : TypeId} {v : Value} {xs : List Value} (h : w.ownsRow B e size v n xs) : ∃ q c, v = .slice q n c := by
  rcases h.2 with ⟨rfl, rfl⟩ | ⟨g, cap, cur, rfl, -⟩
  · exact ⟨none, 0, rfl⟩
  · exact ⟨_, cap, rfl⟩
set_option maxHeartbeats 4000000 in
theorem List_row {B g : Nat} {cs : List BV} (hl : cs.length ≤ 1000000) (w : World) (h : EnvAt B w g cs) :
    Calls Try.prog 28 #[.pointer (some ⟨g, 0, none⟩)] w fun e w' =>
      (∃ q c ds, e = .returned (.slice q cs.length c) ∧ w'.ownsRow w.heap.size 62 3 (.slice q cs.length c) cs.length (rowsB ds) ∧ Vals w.heap.size w' ds ∧ SameB cs ds) ∧ Below w.heap.size w w' := by
  go_enter Try.func28, Try.ntmps28
  go_wp2_with fail
  refine (Names_any hl w h).mono ?_
  rintro e1 w1 ⟨⟨qn, cn, rfl, hN⟩, hb1⟩
  have hE := h.keep hb1
  have hb1s := hb1.size
  have hst : OwnBs w1.heap.size w1 0 (.slice none 0 0) cs [] := ⟨World.ownsRow_nil _ _ _ _, fun b hb => (by cases hb), rfl, fun j hj => by omega⟩
  have HST := Lib.hid hst
  clear hst
  go_wp2_with fail
  go_loopw [3, 11] (fun o i wr => ∃ (k : Nat) (ds : List BV), k ≤ cs.length ∧ i = .int .i64 k ∧ Hid (OwnBs w1.heap.size wr k o cs ds) ∧ Below w1.heap.size w1 wr) (fun _ i _ => cs.length - (intOf i).toNat)
  case atStart => exact ⟨0, [], Nat.zero_le _, rfl, HST.out, Below.refl _ _⟩
  case round =>
    obtain ⟨k, ds, hk, rfl, HS, hbw⟩ := hrel
    have hbs := hbw.size
    clear HST
    by_cases hlt : k < cs.length
    · have hki : (k : Int) < (cs.length : Int) := by omega
      have hNw := hN.keep' hbw
      rcases hNw with h0 | ⟨gn, rfl, hgn, hon⟩
      · have := congrArg List.length h0
        rw [strsOf_len] at this
        simp only [List.length_nil] at this
        omega
      have n0 := hon.cell (strs_at hlt)
      obtain ⟨x, hx⟩ : ∃ x, (bth cs k).name = x := ⟨_, rfl⟩
      rw [hx] at n0
      have HX := Lib.hid hx
      have hEw := hE.keep hbw
      clear hx hon
      go_wp2_with fail
      refine (Get_yes hlt hl x HX.out _ hEw).mono ?_
      rintro e2 w2 ⟨⟨p2, c2, q2, f2, rfl, hn1, hn2⟩, hb2⟩
      obtain ⟨a1, a2, a3, a4, a5, a6, a7⟩ := hEw.vals _ (bth_mem hlt)
      obtain ⟨b, hb'⟩ : ∃ b, bth cs k = b := ⟨_, rfl⟩
      rw [hb'] at hn1 hn2 a3 a4 a5 a6 a7
      rw [hb']
      have hx2 : b.name = x := by rw [← hb']; exact HX.out
      rw [hx2] at a7
      have HBE : Hid ((bth cs k).name = x ∧ (bth cs k).s = b.s ∧ (bth cs k).d = b.d) := ⟨HX.out, by rw [hb'], by rw [hb']⟩
      have hba := below_alloc w2 (.cells #[.slice p2 b.s.length c2, .slice q2 b.d.length f2] 47)
      have HS2 := Lib.hid ((HS.out.keep hb2).keep hba)
      have hv := Lib.hid (vals_one (b := ⟨x, p2, c2, b.s, q2, f2, b.d⟩) ((hn1.mono (B' := w1.heap.size) (by omega)).keep' hba) ((hn2.mono (B' := w1.heap.size) (by omega)).keep' hba) a3 a4 a5 a6 a7)
      have hb12 := below_t (below_t hbw hb2) hba
      have hb2s := hb2.size
      clear hb' hx2 hn1 hn2 a1 a2 a3 a4 hEw hba n0
      go_wp2_with (at_builtin; refine append_bind rfl _ _ rfl w1.heap.size _ k _ rfl (HS2.out.row.alloc _) (some ⟨w2.heap.size + 1, 0, none⟩) 1 x p2 q2 b.s.length c2 b.d.length f2 rfl (cells_new _ _ [.string x, .slice p2 b.s.length c2, .slice q2 b.d.length f2] _ (by simp)) (by omega) (by simp; omega) ?_; intro v' w5 hown5 hg5)
      have HN := Lib.hid (ownBs_next HS2.out hv.out HBE.out hg5 hown5)
      have hb5 : Below w1.heap.size w1 w5 := (below_t hb12 (below_alloc _ _)).grown hg5 (by have := hb12.size; simp at this ⊢; omega) fun j hj => (row_block HS2.out.row hj.symm).choose_spec.2
      go_roundw
      case rel => exact ⟨k + 1, _, by omega, by go_num, HN, hb5⟩
      case measure => simp [intOf]; omega
    · have hki : ¬ (k : Int) < (cs.length : Int) := by omega
      have hke : k = cs.length := by omega
      obtain ⟨q, cq, rfl⟩ : ∃ q cq, u3 = .slice q k cq := row_form HS.out.row
      have hb := below_t hb1 hbw
      have HQ : Hid (wr.ownsRow w.heap.size 62 3 (.slice q cs.length cq) cs.length (rowsB ds) ∧ Vals w.heap.size wr ds ∧ SameB cs ds) := ⟨by rw [← hke]; exact row_mono HS.out.row hb1s, HS.out.vals.mono hb1s, by rw [HS.out.len, hke], fun j hj => HS.out.same j (by omega)⟩
      have HK := Lib.hid hke
      clear hke
      go_wp2_with fail
      go_ret
      exact ⟨⟨q, cq, congrArg (fun n => Ending.returned (.slice q n cq)) HK.out, ds, HQ.out⟩, hb⟩

theorem List_any {B g : Nat} {cs : List BV} (hl : cs.length ≤ 1000000) (w : World) (h : EnvAt B w g cs) :
    Calls Try.prog 28 #[.pointer (some ⟨g, 0, none⟩)] w fun e w' =>
      (∃ q c ds, e = .returned (.slice q cs.length c) ∧ New w.heap.size w' q 62 (rowsB ds) ∧ Vals w.heap.size w' ds ∧ SameB cs ds) ∧ Below w.heap.size w w' :=
  (List_row hl w h).mono fun e w' ⟨⟨q, c, ds, h1, h2, h3⟩, hb⟩ => ⟨⟨q, c, ds, h1, row_new3 h2, h3⟩, hb⟩
end Go.Proofs.Ytolkgjbljdmadaa
