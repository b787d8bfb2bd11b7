/- What lies in an environment in the making, and what the steps of env.New leave of it. No condition beyond what each says. -/
import Derived.Test.YtolkgjbljdmadaaEnv4
namespace Go.Proofs.Ytolkgjbljdmadaa
open Go.RowKit Go.Shelf
set_option linter.unusedVariables false
set_option linter.unusedSimpArgs false

theorem Chg.grown {w w' : World} {row : Option Nat} (h : w.grownBy w' row) : Chg (fun j => some j = row) w w' := ⟨h.os, h.tape, h.output, h.size, fun k hk hn => h.block k hk hn⟩
theorem New.chg {S : Nat → Prop} {B : Nat} {a b : World} {p : Option Addr} {e : TypeId} {vs : List Value} (h : New B a p e vs) (hc : Chg S a b) (hs : ∀ j cs, a.heap[j]? = some (.cells cs e (0, 0)) → ¬ S j) : New B b p e vs := by
  rcases h with h | ⟨g, hp, hB, r, hr⟩
  · exact .inl h
  · exact .inr ⟨g, hp, hB, r, (hc.block g (Array.getElem?_eq_some_iff.1 hr).1 (hs g _ hr)).trans hr⟩
theorem own_type {w : World} {g : Nat} {e e' : TypeId} {vs : List Value} {cs : Array Value} (h : Own w g e vs) (hne : e ≠ e') : w.heap[g]? ≠ some (.cells cs e' (0, 0)) := by
  obtain ⟨r, hr⟩ := h
  rw [hr]
  intro e
  injection e with e
  injection e with _ e
  exact hne e
theorem row_block {w : World} {B size n : Nat} {e : TypeId} {v : Value} {xs : List Value} (h : w.ownsRow B e size v n xs) {j : Nat} (hj : some j = v.ownBlock) : ∃ cs, w.heap[j]? = some (.cells cs e (0, 0)) ∧ B ≤ j := by
  rcases h.2 with ⟨rfl, -⟩ | ⟨g, cap, cur, rfl, hb, hg, -⟩
  · cases hj
  · cases hj
    exact ⟨cur, hg, hb⟩
theorem row_chg {S : Nat → Prop} {a b : World} {B size n : Nat} {e : TypeId} {v : Value} {xs : List Value} (h : a.ownsRow B e size v n xs) (hc : Chg S a b) (hs : ∀ j cs, a.heap[j]? = some (.cells cs e (0, 0)) → ¬ S j) : b.ownsRow B e size v n xs := by
  obtain ⟨h1, h2⟩ := h
  refine ⟨h1, ?_⟩
  rcases h2 with h2 | ⟨g, cap, cur, rfl, hb, hg, rest⟩
  · exact .inl h2
  · exact .inr ⟨g, cap, cur, rfl, hb, (hc.block g (Array.getElem?_eq_some_iff.1 hg).1 (hs g _ hg)).trans hg, rest⟩
theorem HasMap.not_cells {w : World} {m : Nat} {ns : List ByteArray} (h : HasMap w m ns) {cs : Array Value} {e : TypeId} {fr : Nat × Nat} : w.heap[m]? ≠ some (.cells cs e fr) := by
  obtain ⟨es, clock, h1, h2⟩ := h
  rw [h1]
  intro e
  cases e
theorem HasMap.chg {S : Nat → Prop} {a b : World} {m : Nat} {ns : List ByteArray} (h : HasMap a m ns) (hc : Chg S a b) (hs : ¬ S m) : HasMap b m ns := h.block (hc.block m h.lt hs)
theorem Chg.one {w : World} (g i : Nat) (v : Value) : Chg (fun j => j = g) w (w.setCell ⟨g, i, none⟩ v) := Chg.set (S := fun j => j = g) (Chg.refl (fun j => j = g) w) (p := ⟨g, i, none⟩) rfl v

def Vals (B : Nat) (w : World) (cs : List BV) : Prop := ∀ b ∈ cs, New B w b.sp 3 (b.s.map (.int .i64)) ∧ New B w b.dp 2 (b.d.map (.int .i64)) ∧ (∀ x ∈ b.s, I64 x) ∧ (∀ x ∈ b.d, I64 x) ∧ b.s.length ≤ 1000000 ∧ b.d.length ≤ 1000000 ∧ b.name.size ≤ 9223372036854775807
theorem Vals.chg {S : Nat → Prop} {B : Nat} {a b : World} {cs : List BV} (h : Vals B a cs) (hc : Chg S a b) (h1 : ∀ j cs, a.heap[j]? = some (.cells cs 3 (0, 0)) → ¬ S j) (h2 : ∀ j cs, a.heap[j]? = some (.cells cs 2 (0, 0)) → ¬ S j) : Vals B b cs :=
  fun x hx => let ⟨a1, a2, a3⟩ := h x hx; ⟨a1.chg hc h1, a2.chg hc h2, a3⟩
theorem Vals.keep {B : Nat} {a b : World} {cs : List BV} (h : Vals B a cs) (hb : Below a.heap.size a b) : Vals B b cs := fun x hx => let ⟨a1, a2, a3⟩ := h x hx; ⟨a1.keep' hb, a2.keep' hb, a3⟩
theorem Vals.append {B : Nat} {w : World} {cs ds : List BV} (h : Vals B w cs) (k : Vals B w ds) : Vals B w (cs ++ ds) := fun x hx => by
  rcases List.mem_append.1 hx with hx | hx
  · exact h x hx
  · exact k x hx

/-- an environment in the making -/
structure NewSt (w : World) (bs : List BV) (k : Nat) (cs : List BV) (p : Option Addr) (c : Nat) (wr : World) : Prop where
  own : Own wr (w.heap.size + 1) 92 [.slice p k c, .map (some w.heap.size)]
  row : wr.ownsRow w.heap.size 62 3 (.slice p k c) k (rowsB cs)
  map : HasMap wr w.heap.size (cs.map BV.name)
  vals : Vals w.heap.size wr cs
  len : cs.length = k
  same : ∀ j, j < k → (bth bs j).name = (bth cs j).name ∧ (bth bs j).s = (bth cs j).s ∧ (bth bs j).d = (bth cs j).d
  good : ∀ j, j < k → GoodAt bs j
  below : Below w.heap.size w wr

theorem NewSt.keep {w : World} {bs : List BV} {k : Nat} {cs : List BV} {p : Option Addr} {c : Nat} {a b : World} (h : NewSt w bs k cs p c a) (hb : Below a.heap.size a b) : NewSt w bs k cs p c b :=
  ⟨h.own.keep hb h.own.lt, row_chg h.row (S := fun _ => False) (Chg.of_below hb) (fun _ _ _ h => h), h.map.keep hb, h.vals.keep hb, h.len, h.same, h.good, below_t h.below hb⟩

theorem mid_append {w : World} {bs : List BV} {k : Nat} {cs : List BV} {p : Option Addr} {c : Nat} {a a2 : World} (h : NewSt w bs k cs p c a) {b' : BV} (hb' : Vals w.heap.size a [b']) {o : Obj} (hg : (a.alloc o).grownBy a2 (Value.slice p k c).ownBlock) :
    Own a2 (w.heap.size + 1) 92 [.slice p k c, .map (some w.heap.size)] ∧ HasMap a2 w.heap.size (cs.map BV.name) ∧ Vals w.heap.size a2 (cs ++ [b']) ∧ Below w.heap.size w a2 := by
  have hk := h.keep (below_alloc a o)
  have hv := (h.vals.append hb').keep (below_alloc a o)
  have hc := Chg.grown hg
  have hrow : ∀ j, some j = (Value.slice p k c).ownBlock → ∃ cs, (a.alloc o).heap[j]? = some (.cells cs 62 (0, 0)) := fun j hj => let ⟨cs, h1, _⟩ := row_block hk.row hj; ⟨cs, h1⟩
  refine ⟨hk.own.chg hc fun hs => ?_, hk.map.chg hc fun hs => ?_, hv.chg hc (fun j ds hj hs => ?_) (fun j ds hj hs => ?_), hk.below.grown hg (by have := h.below.size; simp; omega) fun j hj => ?_⟩
  · obtain ⟨cs, h1⟩ := hrow _ hs
    exact own_type hk.own (by decide) h1
  · obtain ⟨cs, h1⟩ := hrow _ hs
    exact hk.map.not_cells h1
  · obtain ⟨cs, h1⟩ := hrow _ hs
    rw [hj] at h1
    cases h1
  · obtain ⟨cs, h1⟩ := hrow _ hs
    rw [hj] at h1
    cases h1
  · exact (row_block hk.row hj.symm).choose_spec.2

theorem mid_set {B gt m n : Nat} {w a : World} {cs : List BV} {u v x q : Value} {ns : List ByteArray} (ho : Own a gt 92 [u, v]) (hm : HasMap a m ns) (hv : Vals B a cs) (hr : a.ownsRow B 62 3 q n (rowsB cs)) (hb : Below w.heap.size w a) (hgt : w.heap.size ≤ gt) :
    Own (a.setCell ⟨gt, 0, none⟩ x) gt 92 [x, v] ∧ HasMap (a.setCell ⟨gt, 0, none⟩ x) m ns ∧ Vals B (a.setCell ⟨gt, 0, none⟩ x) cs ∧ (a.setCell ⟨gt, 0, none⟩ x).ownsRow B 62 3 q n (rowsB cs) ∧ Below w.heap.size w (a.setCell ⟨gt, 0, none⟩ x) := by
  have hc := Chg.one (w := a) gt 0 x
  refine ⟨ho.set (i := 0) (by simp) x, hm.chg hc fun e => ?_, hv.chg hc (fun j ds hj e => ?_) (fun j ds hj e => ?_), row_chg hr hc fun j ds hj e => ?_, below_set hb hgt _ _⟩
  · obtain ⟨r, hr⟩ := ho
    exact hm.not_cells (by rw [e]; exact hr)
  · rw [e] at hj
    exact own_type ho (by decide) hj
  · rw [e] at hj
    exact own_type ho (by decide) hj
  · rw [e] at hj
    exact own_type ho (by decide) hj

theorem mid_map {B gt m n : Nat} {w a b : World} {cs : List BV} {u v q : Value} {ns : List ByteArray} (ho : Own a gt 92 [u, v]) (hm : HasMap a m ns) (hv : Vals B a cs) (hr : a.ownsRow B 62 3 q n (rowsB cs)) (hb : Below w.heap.size w a) (hsz : w.heap.size ≤ m) (hg : a.grownBy b (some m)) :
    Own b gt 92 [u, v] ∧ Vals B b cs ∧ b.ownsRow B 62 3 q n (rowsB cs) ∧ Below w.heap.size w b := by
  have hc := Chg.grown hg
  refine ⟨ho.chg hc fun e => ?_, hv.chg hc (fun j ds hj e => ?_) (fun j ds hj e => ?_), row_chg hr hc fun j ds hj e => ?_, hb.grown hg hb.size fun j hj => ?_⟩
  · obtain ⟨r, hr⟩ := ho
    cases e
    exact hm.not_cells hr
  · cases e
    exact hm.not_cells hj
  · cases e
    exact hm.not_cells hj
  · cases e
    exact hm.not_cells hj
  · cases hj
    exact hsz

/-- 'm[k] = v' at an operation of a region that draws its order -/
theorem wp_mapUpdate_own {H : Type} {P : Program} {w : World} {o : Oper} {a : Act} {K : Act → World → Prop} {Q : Exit → Act → World → Prop}
    (m x v : Operand) (t : TypeId) (hop : o.op = Op.mapUpdate t m x v)
    (k e : TypeId) (KK : Maps.Keyed P k) (ht : P.underlying t = some (.map k e)) (R : Value → Option (DataW H × List MemPlace)) (b n : Nat) (D : DataW H)
    (hm : a.eval m = .map (some b)) (hown : w.ownsMap P k R b n D) (hn : n < maxLen) (key val : Value) (kl : Lit) (hx : a.eval x = key) (hv : a.eval v = val) (hkey : keyOf P k key = some kl)
    (d : DataW H) (ps : List MemPlace) (hval : R val = some (d, ps))
    (hK : ∀ w', w'.ownsMap P k R b (n + 1) (D.put kl d) → w.grownBy w' (some b) → K (a.put o.dst undef) w') : o.wp P a w K Q := by
  obtain ⟨w', hrun, r1, r2⟩ := hown.update KK ht hn hkey hval
  unfold Oper.wp
  simp [execOp, hop, hm, hx, hv, hrun, Result.andThen]
  exact hK w' r1 r2

theorem arr_small {s d : List Int} (h : arrS s d = 0) : s.length ≤ 16 ∧ d.length ≤ 65536 := by
  unfold arrS at h
  by_cases hz : shapeS s = 0
  · rw [if_pos hz] at h
    have hs := shapeS_zero.1 hz
    by_cases hd : (d.length : Int) = cellsS s
    · have := hs.len
      obtain ⟨c1, c2, c3⟩ := hs.cells
      by_cases h0 : (0 : Int) ∈ s
      · have := c2 h0
        omega
      · obtain ⟨d1, d2, d3⟩ := c3 h0
        omega
    · rw [if_neg hd] at h
      cases h
  · rw [if_neg hz] at h
    exact absurd h hz
end Go.Proofs.Ytolkgjbljdmadaa
