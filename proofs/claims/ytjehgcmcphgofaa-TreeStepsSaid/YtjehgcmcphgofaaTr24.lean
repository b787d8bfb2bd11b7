/- Steps of the reference: the nodes as a slice. No condition beyond what each says. -/
import Derived.Test.YtjehgcmcphgofaaTr23
namespace Go.Proofs.Ytjehgcmcphgofaa
open Go.RowKit Go.Shelf
set_option linter.unusedVariables false
set_option linter.unusedSimpArgs false

def cellsT (d : TD) : List Value := [.int .i64 d.kind, .int .i64 d.fn, .int .i64 d.axis, .string d.name, .slice d.np d.nums.length d.nc, .slice d.kp d.n d.kc]
/-- the cells of a row of nodes -/
def flatT (L : List TV) : List Value := (L.map fun x => cellsT x.d).flatten
theorem flatT_append (a b : List TV) : flatT (a ++ b) = flatT a ++ flatT b := by simp [flatT]
theorem flatT_one (x : TV) : flatT [x] = cellsT x.d := by simp [flatT]
theorem flatT_len (L : List TV) : (flatT L).length = L.length * 6 := by
  induction L with
  | nil => rfl
  | cons x L ih =>
    have : flatT (x :: L) = cellsT x.d ++ flatT L := by simp [flatT]
    rw [this, List.length_append, ih]
    simp [cellsT]
    omega
theorem flatT_get {L : List TV} : ∀ {k : Nat} {x : TV}, L[k]? = some x → ∀ {j : Nat}, j < 6 → (flatT L)[k * 6 + j]? = (cellsT x.d)[j]? := by
  induction L with
  | nil => intro k x h; simp at h
  | cons y L ih =>
    intro k x h j hj
    have e : flatT (y :: L) = cellsT y.d ++ flatT L := by simp [flatT]
    have hl : (cellsT y.d).length = 6 := rfl
    rw [e]
    cases k with
    | zero =>
      simp at h
      subst h
      rw [Nat.zero_mul, Nat.zero_add, List.getElem?_append_left (by omega)]
    | succ k =>
      rw [List.getElem?_append_right (by omega), hl, ← ih (k := k) (x := x) (by simpa using h) hj]
      congr 1
      omega
theorem flatT_ones (L : List TV) : ∀ u ∈ flatT L, u.oneCell' = true := by
  intro u hu
  obtain ⟨l, hl, hu⟩ := List.mem_flatten.1 hu
  obtain ⟨x, -, rfl⟩ := List.mem_map.1 hl
  simp [cellsT] at hu
  rcases hu with rfl | rfl | rfl | rfl | rfl | rfl <;> rfl
/-- a slice of nodes -/
structure Nodes (w : World) (p : Option Addr) (L : List TV) : Prop where
  cells : Cells w p (flatT L)
  tree : ∀ x ∈ L, TreeIn w x
theorem Nodes.keep {w w' : World} {p : Option Addr} {L : List TV} (h : Nodes w p L) (hb : Below w.heap.size w w') : Nodes w' p L := ⟨h.cells.keep hb, fun x hx => (h.tree x hx).keep hb⟩
theorem Nodes.at {w : World} {p : Option Addr} {L : List TV} (h : Nodes w p L) {k : Nat} {x : TV} (hk : L[k]? = some x) : ∃ g o, p = some ⟨g, o, none⟩ ∧ g < w.heap.size ∧ NodeAt w g (o + k * 6) x.d ∧ TreeIn w x := by
  rcases h.cells with h' | ⟨b, off, hp, hb, hc⟩
  · have h1 := flatT_len L
    rw [h'] at h1
    have h2 := (List.getElem?_eq_some_iff.1 hk).1
    simp at h1
    omega
  · have hc' : ∀ j u, (cellsT x.d)[j]? = some u → w.cell? ⟨b, off + k * 6 + j, none⟩ = some u := fun j u hu => by
      have hj : j < 6 := by have := (List.getElem?_eq_some_iff.1 hu).1; simpa [cellsT] using this
      rw [Nat.add_assoc]
      exact hc _ _ ((flatT_get hk hj).trans hu)
    exact ⟨b, off, hp, hb, ⟨by simpa using hc' 0 _ rfl, hc' 1 _ rfl, hc' 2 _ rfl, hc' 3 _ rfl, hc' 4 _ rfl, hc' 5 _ rfl⟩, h.tree x (List.mem_of_getElem? hk)⟩
theorem row_new6 {w : World} {B : Nat} {e : TypeId} {v : Value} {n : Nat} {xs : List Value} (h : w.ownsRow B e 6 v n xs) : ∃ p c, v = .slice p n c ∧ New B w p e xs := by
  obtain ⟨h1, h2⟩ := h
  rcases h2 with ⟨rfl, h0⟩ | ⟨g, cap, cur, rfl, hb, hg, -, -, -, ht⟩
  · subst h0
    have : xs = [] := List.eq_nil_of_length_eq_zero (by omega)
    subst this
    exact ⟨none, 0, rfl, .inl rfl⟩
  · refine ⟨some ⟨g, 0, none⟩, cap, rfl, .inr ⟨g, rfl, hb, cur.toList.drop xs.length, ?_⟩⟩
    rw [hg]
    have e : xs ++ cur.toList.drop xs.length = cur.toList := by
      rw [← h1] at ht
      conv => lhs; lhs; rw [← ht]
      exact List.take_append_drop _ _
    rw [e]
theorem info_tree : (Try.prog.info? 25).map (fun i => (i.zero, i.size, i.bytes)) = some (some (.agg #[.int .i64 0, .int .i64 0, .int .i64 0, .string ⟨#[]⟩, .slice none 0 0, .slice none 0 0]), 6, 88) := by kernel_rfl
theorem cells_node (w : World) (d : TD) (b : Nat) (hb : b = w.heap.size) : Cells (w.alloc (.cells #[.int .i64 d.kind, .int .i64 d.fn, .int .i64 d.axis, .string d.name, .slice d.np d.nums.length d.nc, .slice d.kp d.n d.kc] 25)) (some ⟨b, 0, none⟩) (cellsT d) := by
  subst hb
  exact New.cells (B := 0) (.inr ⟨_, rfl, Nat.zero_le _, Own.made w _ [.int .i64 d.kind, .int .i64 d.fn, .int .i64 d.axis, .string d.name, .slice d.np d.nums.length d.nc, .slice d.kp d.n d.kc] _ rfl⟩)
/-- 'append(nodes, more...)' -/
theorem append_nodes {w : World} {ops : Array Oper} {rest : List Oper} {o : Oper} {a : Act} {Q : Exit → Act → World → Prop} (hgd : o.guard = none) (s x : Operand)
    (ho : o.op = .call { callee := .builtin .append, args := #[s, x], argTypes := #[23, 23] })
    (base : Nat) (v : Value) (L : List TV) (n : Nat) (hn : L.length = n) (hs : a.eval s = v) (hown : w.ownsRow base 25 6 v n (flatT L))
    (p : Option Addr) (c m : Nat) (M : List TV) (hm : M.length = m) (hx : a.eval x = .slice p m c) (hsrc : Cells w p (flatT M))
    (hbig : n + m ≤ 1099511627776) (hbase : base ≤ w.heap.size)
    (h : ∀ v' w', w'.ownsRow base 25 6 v' (n + m) (flatT (L ++ M)) → w.grownBy w' v.ownBlock → wpList Try.prog ops Q rest (a.put o.dst v') w') : wpList Try.prog ops Q (o :: rest) a w :=
  wpList_append_src hgd s x 23 ho base 25 _ 6 88 Try.underlying23 info_tree rfl (by decide) v n _ hs hown p m c _ hx (by rw [flatT_len, hm]) hsrc (flatT_ones M) hbig (by omega) hbase fun v' w' h1 h2 => h v' w' (by rw [flatT_append]; exact h1) h2

/-- the nodes of the last k kids -/
def partT (d : TD) (kids : Nat → TV) (k : Nat) : List TV := (((List.range d.n).reverse.take k).map fun i => stepsT (kids i)).flatten
theorem partT_zero (d : TD) (kids : Nat → TV) : partT d kids 0 = [] := by simp [partT]
theorem partT_succ {d : TD} {kids : Nat → TV} {k j : Nat} (h : k + j + 1 = d.n) : partT d kids (k + 1) = partT d kids k ++ stepsT (kids j) := by
  have h1 : ((List.range d.n).reverse.take k).length = k := by simp; omega
  have := rev_take h
  rw [h1] at this
  unfold partT
  rw [← this]
  simp
theorem partT_all (d : TD) (kids : Nat → TV) : stepsT (.mk d kids) = partT d kids d.n ++ [.mk d kids] := by
  rw [stepsT_mk, partT, List.take_of_length_le (by simp)]
theorem partT_le {d : TD} {kids : Nat → TV} {k : Nat} (h : sizeT (.mk d kids) ≤ 1000000) : (partT d kids k).length ≤ 1000000 := by
  rw [← stepsT_len, partT_all, List.length_append] at h
  have : (partT d kids k).length ≤ (partT d kids d.n).length := by
    have e : (List.range d.n).reverse.take k ++ (List.range d.n).reverse.drop k = (List.range d.n).reverse.take d.n := by
      rw [List.take_append_drop, List.take_of_length_le (by simp)]
    unfold partT
    rw [← e, List.map_append, List.flatten_append, List.length_append]
    omega
  omega
theorem sizeT_kid {d : TD} {kids : Nat → TV} {j : Nat} (hj : j < d.n) : sizeT (kids j) < sizeT (.mk d kids) := by
  have := sumTo_at (f := fun i => sizeT (kids i)) hj
  simp only [sizeT]
  omega
/-- what Steps returns -/
def StepsRet (w : World) (t : TV) (e : Ending) (w' : World) : Prop := ∃ p c, e = .returned (.slice p (stepsT t).length c) ∧ Nodes w' p (stepsT t) ∧ Below w.heap.size w w'

set_option maxHeartbeats 2000000 in
theorem RSteps_step (d : TD) (kids : Nat → TV) (ih : ∀ i w, sizeT (kids i) ≤ 1000000 → TreeIn w (kids i) → Calls Try.prog 19 #[.agg #[.int .i64 (kids i).d.kind, .int .i64 (kids i).d.fn, .int .i64 (kids i).d.axis, .string (kids i).d.name, .slice (kids i).d.np (kids i).d.nums.length (kids i).d.nc, .slice (kids i).d.kp (kids i).d.n (kids i).d.kc]] w (StepsRet w (kids i)))
    (w : World) (hs : sizeT (.mk d kids) ≤ 1000000) (h : TreeIn w (.mk d kids)) : Calls Try.prog 19 #[.agg #[.int .i64 d.kind, .int .i64 d.fn, .int .i64 d.axis, .string d.name, .slice d.np d.nums.length d.nc, .slice d.kp d.n d.kc]] w (StepsRet w (.mk d kids)) := by
  have hba := below_alloc w (.cells #[.int .i64 d.kind, .int .i64 d.fn, .int .i64 d.axis, .string d.name, .slice d.np d.nums.length d.nc, .slice d.kp d.n d.kc] 25)
  have A := At6.new w _ d 25 rfl
  have hn := h.small
  have hw1 : wrap64 ((d.n : Int) - 1) = d.n - 1 := wrap64_id (by omega) (by omega)
  have hw2 : IntKind.i64.wrap ((d.n : Int) - 1) = d.n - 1 := wrapK_id (by omega) (by omega)
  have HT := Lib.hid (h.keep hba)
  have IH := Lib.hid ih
  have HS := Lib.hid hs
  clear h ih hs
  obtain ⟨W, hW⟩ : ∃ W, w.alloc (.cells #[.int .i64 d.kind, .int .i64 d.fn, .int .i64 d.axis, .string d.name, .slice d.np d.nums.length d.nc, .slice d.kp d.n d.kc] 25) = W := ⟨_, rfl⟩
  rw [hW] at A hba HT
  have HW := Lib.hid hW
  have hAlt := A.lt
  have HBA := Lib.hid hba
  have HA := Lib.hid A
  have hA5 := A.c5
  clear hW hba A
  go_enter Try.func19, Try.ntmps19
  go_wp2_with fail
  rw [HW.out]
  clear HW
  go_wp2_with fail
  go_loopw [3, 4] (fun x i wr => ∃ (k : Nat) (y : Int) (v : Value) (wz : World), wz = wr ∧ k ≤ d.n ∧ i = .int .i64 y ∧ x = v ∧ Hid (y = d.n - 1 - k) ∧ Hid (wz.ownsRow W.heap.size 25 6 v (partT d kids k).length (flatT (partT d kids k))) ∧ Hid (Below W.heap.size W wz)) (fun _ i _ => (intOf i + 1).toNat)
  case atStart => exact ⟨0, d.n - 1, _, W, rfl, Nat.zero_le _, rfl, rfl, by simp [Hid], by rw [Hid, partT_zero]; exact World.ownsRow_nil _ _ _ _, Below.refl _ _⟩
  case round =>
    obtain ⟨k, y, v, wz, rfl, hk, rfl, rfl, HE, HR, hB⟩ := hrel
    have hA5 := (hB.out.cell (p := ⟨w.heap.size, 5, none⟩) hAlt).trans hA5
    by_cases hy0 : 0 ≤ y
    · obtain ⟨j, rfl⟩ : ∃ j : Nat, y = j := ⟨y.toNat, by omega⟩
      have hkj : k + j + 1 = d.n := by have := HE.out; omega
      have hlt : j < d.n := by omega
      have hi1 : (j : Int) < (d.n : Int) := by omega
      obtain ⟨⟨g, o, e1, hg, N⟩, hTk⟩ := (HT.out.keep hB.out).kid hlt
      have c0 := N.c0
      have c1 := N.c1
      have c2 := N.c2
      have c3 := N.c3
      have c4 := N.c4
      have c5 := N.c5
      rw [e1] at hA5
      have hj1 : wrap64 ((j : Int) - 1) = j - 1 := wrap64_id (by omega) (by omega)
      have hj2 : IntKind.i64.wrap ((j : Int) - 1) = j - 1 := wrapK_id (by omega) (by omega)
      have HTk := Lib.hid hTk
      have HKJ := Lib.hid hkj
      have HSk : Hid (sizeT (kids j) ≤ 1000000 ∧ (partT d kids k).length + (stepsT (kids j)).length ≤ 1000000) := by
        have h1 := sizeT_kid (kids := kids) hlt
        have h2 := HS.out
        have h3 := partT_le (k := k + 1) h2
        rw [partT_succ hkj, List.length_append] at h3
        exact ⟨by omega, h3⟩
      clear N hTk hy0 e1 hkj
      go_wp2_with fail
      refine (IH.out j wz HSk.out.1 HTk.out).mono ?_
      rintro e w' ⟨p', c', rfl, hN', hb'⟩
      have HR' : Hid (w'.ownsRow W.heap.size 25 6 _ (partT d kids k).length (flatT (partT d kids k))) := row_block' HR.out fun i hi => hb'.block i (row_lt HR.out hi).2
      have HN' := Lib.hid hN'.cells
      have hB' := Lib.hid (below_t hB.out hb')
      have hBs := hB'.out.size
      clear c0 c1 c2 c3 c4 c5 hb' hN' hA5 hB HTk
      go_wp2_with (at_builtin; refine append_nodes rfl (.tmp 13) (.tmp 19) rfl W.heap.size _ (partT d kids k) _ rfl rfl HR'.out p' c' _ (stepsT (kids j)) rfl rfl HN'.out (by have := HSk.out.2; omega) hBs ?_; intro v2 w2 o2 g2)
      have HO2 : Hid (w2.ownsRow W.heap.size 25 6 v2 (partT d kids (k + 1)).length (flatT (partT d kids (k + 1)))) := by
        rw [Hid, partT_succ HKJ.out, List.length_append]
        exact o2
      have HB2 := Lib.hid (hB'.out.grown g2 hBs fun i hi => (row_lt HR'.out hi).1)
      have HE2 : Hid ((j : Int) - 1 = d.n - 1 - ((k + 1 : Nat) : Int)) := by have := HKJ.out; simp only [Hid]; omega
      have hk1 : k + 1 ≤ d.n := by have := HKJ.out; omega
      clear o2 g2 hBs hB' HN' HR' HR
      go_wp2_with fail
      go_roundw
      case rel => exact ⟨k + 1, (j : Int) - 1, v2, w2, rfl, hk1, rfl, rfl, HE2, HO2, HB2⟩
      case measure => simp [intOf]
    · have hd0 : decide (0 ≤ y) = false := by simpa using hy0
      have hkn : k = d.n := by have := HE.out; omega
      have hAz := HA.out.keep hB.out
      have hhAz0 := hAz.c0
      have hhAz1 := hAz.c1
      have hhAz2 := hAz.c2
      have hhAz3 := hAz.c3
      have hhAz4 := hAz.c4
      have hhAz5 := hAz.c5
      have HRn := Lib.hid HR.out
      have hBs := hB.out.size
      have HBd := Lib.hid hB.out
      have HSn : Hid ((partT d kids k).length + 1 ≤ 1000000 + 1) := by have := partT_le (k := k) HS.out; simp only [Hid]; omega
      clear hy0 hAz hA5 hB HR
      go_wp2_with (at_builtin; refine append_nodes rfl (.tmp 21) (.tmp 23) rfl W.heap.size _ (partT d kids k) _ rfl rfl (HRn.out.alloc _) (some ⟨wz.heap.size, 0, none⟩) 1 1 [.mk d kids] rfl rfl (by rw [flatT_one]; exact cells_node wz d _ rfl) (by have := HSn.out; omega) (by simp; omega) ?_; intro v2 w2 o2 g2)
      rw [hkn, ← partT_all] at o2
      have hlen : (partT d kids d.n).length + 1 = (stepsT (.mk d kids)).length := by rw [partT_all, List.length_append]; rfl
      rw [hlen] at o2
      obtain ⟨p2, c2, rfl, hn2⟩ := row_new6 o2
      have hBW := (HBd.out.alloc hBs (.cells #[.int .i64 d.kind, .int .i64 d.fn, .int .i64 d.axis, .string d.name, .slice d.np d.nums.length d.nc, .slice d.kp d.n d.kc] 25)).grown g2 (by simp; omega) fun i hi => (row_lt (HRn.out.alloc (.cells #[.int .i64 d.kind, .int .i64 d.fn, .int .i64 d.axis, .string d.name, .slice d.np d.nums.length d.nc, .slice d.kp d.n d.kc] 25)) hi).1
      have HB2 := Lib.hid (below_t HBA.out hBW)
      have HN2 := Lib.hid hn2.cells
      have HT2 : Hid (∀ x ∈ stepsT (.mk d kids), TreeIn w2 x) := fun x hx => stepsT_in (HT.out.keep hBW) hx
      clear o2 g2 hn2 hlen hBs hBW
      go_wp2_with fail
      go_ret
      exact ⟨p2, c2, rfl, ⟨HN2.out, HT2.out⟩, HB2.out⟩
theorem RSteps_any : ∀ (t : TV) (w : World), sizeT t ≤ 1000000 → TreeIn w t → Calls Try.prog 19 #[.agg #[.int .i64 t.d.kind, .int .i64 t.d.fn, .int .i64 t.d.axis, .string t.d.name, .slice t.d.np t.d.nums.length t.d.nc, .slice t.d.kp t.d.n t.d.kc]] w (StepsRet w t)
  | .nil, _, _, h => h.no
  | .mk d kids, w, hs, h => RSteps_step d kids (fun i w hs h => RSteps_any (kids i) w hs h) w hs h
end Go.Proofs.Ytjehgcmcphgofaa
