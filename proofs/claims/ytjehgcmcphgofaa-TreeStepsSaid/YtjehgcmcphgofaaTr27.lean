/- A row of copied nodes that grows. No condition beyond what each says. -/
import Derived.Test.YtjehgcmcphgofaaTr26
import Derived.Deep.AppendLies
namespace Go.Proofs.Ytjehgcmcphgofaa
open Go.RowKit Go.Shelf
set_option linter.unusedVariables false
set_option linter.unusedSimpArgs false

/-- 'append(nodes, node)': where the new row lies -/
theorem wp_append_node {o : Oper} {a : Act} {w : World} {K : Act → World → Prop} {Q : Exit → Act → World → Prop} (s x : Operand)
    (ho : o.op = .call { callee := .builtin .append, args := #[s, x], argTypes := #[23, 23] })
    (base : Nat) (v : Value) (L : List TV) (n : Nat) (hn : L.length = n) (hs : a.eval s = v) (hown : w.ownsRow base 25 6 v n (flatT L))
    (b : Nat) (t : TV) (hx : a.eval x = .slice (some ⟨b, 0, none⟩) 1 1) (hb : w.heap[b]? = some (.cells #[.int .i64 t.d.kind, .int .i64 t.d.fn, .int .i64 t.d.axis, .string t.d.name, .slice t.d.np t.d.nums.length t.d.nc, .slice t.d.kp t.d.n t.d.kc] 25 (0, 0))) (hbig : n ≤ 1000000) (hbase : base ≤ w.heap.size)
    (h : ∀ g cap w', w'.ownsRow base 25 6 (.slice (some ⟨g, 0, none⟩) (n + 1) cap) (n + 1) (flatT (L ++ [t])) → w.grownBy w' v.ownBlock → (v.ownBlock = some g ∨ g = w.heap.size) → K (a.put o.dst (.slice (some ⟨g, 0, none⟩) (n + 1) cap)) w') : o.wp Try.prog a w K Q := by
  obtain ⟨i, hi, hz, hsize, hbytes⟩ := info_parts info_tree
  refine wp_append_lies w s x 23 ho base 25 i _ 6 88 Try.underlying23 hi hz hsize hbytes rfl (by decide) v n _ hs hown ⟨b, 0, none⟩ 1 1 (cellsT t.d) hx rfl (World.news_of_block hb) (by rw [← flatT_one t]; exact flatT_ones [t]) (by decide) (by unfold maxLen; omega) (by omega) hbase _ rfl fun g cap w' h1 h2 h3 _ => h g cap w' ?_ h2 h3
  rw [flatT_append, flatT_one]
  exact h1
theorem wpList_append_node {ops : Array Oper} {rest : List Oper} {o : Oper} {a : Act} {w : World} {Q : Exit → Act → World → Prop} (hgd : o.guard = none) (s x : Operand)
    (ho : o.op = .call { callee := .builtin .append, args := #[s, x], argTypes := #[23, 23] })
    (base : Nat) (v : Value) (L : List TV) (n : Nat) (hn : L.length = n) (hs : a.eval s = v) (hown : w.ownsRow base 25 6 v n (flatT L))
    (b : Nat) (t : TV) (hx : a.eval x = .slice (some ⟨b, 0, none⟩) 1 1) (hb : w.heap[b]? = some (.cells #[.int .i64 t.d.kind, .int .i64 t.d.fn, .int .i64 t.d.axis, .string t.d.name, .slice t.d.np t.d.nums.length t.d.nc, .slice t.d.kp t.d.n t.d.kc] 25 (0, 0))) (hbig : n ≤ 1000000) (hbase : base ≤ w.heap.size)
    (h : ∀ g cap w', w'.ownsRow base 25 6 (.slice (some ⟨g, 0, none⟩) (n + 1) cap) (n + 1) (flatT (L ++ [t])) → w.grownBy w' v.ownBlock → (v.ownBlock = some g ∨ g = w.heap.size) → wpList Try.prog ops Q rest (a.put o.dst (.slice (some ⟨g, 0, none⟩) (n + 1) cap)) w') : wpList Try.prog ops Q (o :: rest) a w :=
  wpList_plain hgd fun _ hK => wp_append_node s x ho base v L n hn hs hown b t hx hb hbig hbase fun g cap w' h1 h2 h3 => hK _ _ (h g cap w' h1 h2 h3)
/-- the row of the copies that have been made -/
structure CopI (C B : Nat) (kids : Nat → TV) (k : Nat) (W1 wz : World) (v : Value) (ks : List TV) : Prop where
  len : ks.length = k
  row : wz.ownsRow B 25 6 v k (flatT ks)
  trees : ∀ x ∈ ks, TreeS (fun j => B ≤ j ∧ some j ≠ v.ownBlock) wz x
  same : ∀ i x, ks[i]? = some x → sameT x (kids i) = true
  below : Below C W1 wz
  base : B ≤ wz.heap.size
  low : C ≤ B
theorem CopI.start (C B : Nat) (kids : Nat → TV) (w W1 : World) (hb : Below C w W1) (hC : C ≤ B) (hB : B ≤ W1.heap.size) : CopI C B kids 0 w W1 (.slice none 0 0) [] :=
  ⟨rfl, World.ownsRow_nil _ _ _ _, fun x hx => by simp at hx, fun i x h => by simp at h, hb, hB, hC⟩
theorem CopI.keep {C B : Nat} {kids : Nat → TV} {k : Nat} {W1 wz w' : World} {v : Value} {ks : List TV} (h : CopI C B kids k W1 wz v ks) (hb : Below wz.heap.size wz w') : CopI C B kids k W1 w' v ks :=
  ⟨h.len, row_block' h.row fun j hj => hb.block j (row_lt h.row hj).2, fun x hx => (h.trees x hx).keep fun j _ hlt => hb.block j hlt, h.same, h.below.trans (hb.mono (Nat.le_trans h.low h.base)), Nat.le_trans h.base hb.size, h.low⟩
theorem CopI.set {C B : Nat} {kids : Nat → TV} {k : Nat} {W1 wz : World} {v : Value} {ks : List TV} (h : CopI C B kids k W1 wz v ks) (b o : Nat) (hb1 : C ≤ b) (hb2 : b < B) (u : Value) : CopI C B kids k W1 (wz.setCell ⟨b, o, none⟩ u) v ks :=
  have same : ∀ j, B ≤ j → (wz.setCell ⟨b, o, none⟩ u).heap[j]? = wz.heap[j]? := fun j hj => Below.heap_setCell wz ⟨b, o, none⟩ u j (by show j ≠ b; omega)
  ⟨h.len, row_block' h.row fun j hj => same j (row_lt h.row hj).1, fun x hx => (h.trees x hx).keep fun j hj _ => same j hj.1, h.same, h.below.setCell (p := ⟨b, o, none⟩) hb1 u, by have := h.base; simpa [World.setCell] using this, h.low⟩
theorem CopI.next {C B : Nat} {kids : Nat → TV} {k : Nat} {W1 wz : World} {v : Value} {ks : List TV} (h : CopI C B kids k W1 wz v ks) {w' z2 : World} (ha : Below wz.heap.size wz w') {A : Nat} (hA : wz.heap.size ≤ A) {t' : TV} (ht : TreeS (fun i => A ≤ i) w' t')
    (hs : sameT t' (kids k) = true) {g cap : Nat} (hrow : z2.ownsRow B 25 6 (.slice (some ⟨g, 0, none⟩) (k + 1) cap) (k + 1) (flatT (ks ++ [t']))) {o : Obj} (hg : (w'.alloc o).grownBy z2 v.ownBlock) (hl : v.ownBlock = some g ∨ g = (w'.alloc o).heap.size) :
    CopI C B kids (k + 1) W1 z2 (.slice (some ⟨g, 0, none⟩) (k + 1) cap) (ks ++ [t']) := by
  have hbase := h.base
  have hlow := h.low
  have has := ha.size
  have hgs := hg.size
  have hv : ∀ j, v.ownBlock = some j → B ≤ j ∧ j < wz.heap.size := fun j hj => row_lt h.row hj
  have same : ∀ j, j < w'.heap.size → some j ≠ v.ownBlock → z2.heap[j]? = w'.heap[j]? := fun j hj hn => (hg.block j (by simp; omega) hn).trans (Below.heap_alloc w' o j hj)
  refine ⟨by rw [List.length_append, h.len]; rfl, hrow, fun x hx => ?_, fun i x hx => ?_, ?_, by simp at hgs; omega, hlow⟩
  · rcases List.mem_append.1 hx with hx | hx
    · have h1 := (h.trees x hx).mono (S' := fun j => (B ≤ j ∧ some j ≠ v.ownBlock) ∧ some j ≠ some g) fun j hj hlt => ⟨hj, fun e => by
        cases e
        rcases hl with hl | hl
        · exact hj.2 hl.symm
        · simp at hl; omega⟩
      exact (h1.keep fun j hj hlt => (same j (by omega) hj.1.2).trans (ha.block j hlt)).mono fun j hj _ => ⟨hj.1.1, hj.2⟩
    · rw [List.mem_singleton.1 hx]
      have h1 := ht.mono (S' := fun j => A ≤ j ∧ some j ≠ some g) fun j hj hlt => ⟨hj, fun e => by
        cases e
        rcases hl with hl | hl
        · have := (hv _ hl).2; omega
        · simp at hl; omega⟩
      refine (h1.keep fun j hj hlt => same j hlt fun e => ?_).mono fun j hj _ => ⟨by omega, hj.2⟩
      have := (hv j e.symm).2
      have := hj.1
      omega
  · rcases Nat.lt_trichotomy i ks.length with hi | hi | hi
    · rw [List.getElem?_append_left hi] at hx
      exact h.same i x hx
    · subst hi
      rw [List.getElem?_append_right (Nat.le_refl _), Nat.sub_self] at hx
      cases hx
      rw [h.len]
      exact hs
    · rw [List.getElem?_eq_none (by simp; omega)] at hx
      cases hx
  · exact (((h.below.trans (ha.mono (by omega))).alloc (by omega) o).grown hg (by simp; omega) fun j hj => by have := (hv j hj).1; omega)
/-- the finished copy -/
theorem CopI.done {C B : Nat} {d : TD} {kids : Nat → TV} {W1 wz : World} {v : Value} {ks : List TV} (h : CopI C B kids d.n W1 wz v ks) (hn : d.n ≤ 1000000) : ∃ p c, v = .slice p d.n c ∧ ∀ (S : Nat → Prop) (p1 : Option Addr) (c1 : Nat) (z : World), (∀ j, B ≤ j → S j) →
    (∀ j, B ≤ j → j < wz.heap.size → z.heap[j]? = wz.heap[j]?) → (d.nums = [] ∨ ∃ g, p1 = some ⟨g, 0, none⟩ ∧ S g ∧ Own z g 2 (d.nums.map (.int .i64))) → ((∀ x ∈ d.nums, I64 x) ∧ d.nums.length ≤ 1000000) →
    ∃ kids', TreeS S z (.mk { d with np := p1, nc := c1, kp := p, kc := c } kids') ∧ sameT (.mk { d with np := p1, nc := c1, kp := p, kc := c } kids') (.mk d kids) = true := by
  obtain ⟨p, c, rfl, hnew⟩ := row_new6 h.row
  refine ⟨p, c, rfl, fun S p1 c1 z hS hz hnums h64 => ⟨fun i => ks.getD i (.mk d kids), ⟨hnums, ⟨h64.1, h64.2, hn⟩, ?_, fun i hi => ?_⟩, ?_⟩⟩
  · have e : ((List.range d.n).map fun i => ks.getD i (.mk d kids)) = ks := by
      apply List.ext_getElem?
      intro i
      by_cases hi : i < d.n
      · rw [List.getElem?_map, List.getElem?_range hi]
        have : i < ks.length := by rw [h.len]; exact hi
        simp [this]
      · rw [List.getElem?_eq_none (by simp; omega), List.getElem?_eq_none (by rw [h.len]; omega)]
    rcases hnew with hnew | ⟨g, hp, hg, ho⟩
    · left
      have h1 := flatT_len ks
      rw [hnew, h.len] at h1
      simp at h1
      show d.n = 0
      omega
    · right
      refine ⟨g, hp, hS g hg, ?_⟩
      show Own z g 25 (flatT ((List.range d.n).map fun i => ks.getD i (.mk d kids)))
      rw [e]
      exact ho.block (hz g hg ho.lt)
  · have hi' : i < ks.length := by rw [h.len]; exact hi
    have hx : ks.getD i (.mk d kids) ∈ ks := by simp [hi']
    exact ((h.trees _ hx).keep fun j hj hlt => hz j hj.1 hlt).mono fun j hj _ => hS j hj.1
  · refine sameT_iff.2 ⟨⟨rfl, rfl, rfl, rfl⟩, rfl, rfl, fun i hi => h.same i _ ?_⟩
    have hi' : i < ks.length := by rw [h.len]; exact hi
    simp [hi']
/-- what Copy returns -/
def CopyRet (w : World) (t : TV) (e : Ending) (w' : World) : Prop := ∃ t' : TV, e = .returned (.agg #[.int .i64 t'.d.kind, .int .i64 t'.d.fn, .int .i64 t'.d.axis, .string t'.d.name, .slice t'.d.np t'.d.nums.length t'.d.nc, .slice t'.d.kp t'.d.n t'.d.kc]) ∧ TreeS (fun k => w.heap.size ≤ k) w' t' ∧ sameT t' t = true ∧ Below w.heap.size w w'
theorem numsT_kid {d : TD} {kids : Nat → TV} {j : Nat} (hj : j < d.n) : numsT (kids j) ≤ numsT (.mk d kids) := by
  have := sumTo_at (f := fun i => numsT (kids i)) hj
  simp only [numsT]
  omega
theorem kids_le (d : TD) (kids : Nat → TV) : d.n ≤ sizeT (.mk d kids) := by
  have h : ∀ n, n ≤ sumTo n (fun i => sizeT (kids i)) := by
    intro n
    induction n with
    | zero => exact Nat.zero_le _
    | succ n ih =>
      have := sizeT_pos (kids n)
      simp only [sumTo]
      omega
  have := h d.n
  simp only [sizeT]
  omega
end Go.Proofs.Ytjehgcmcphgofaa
