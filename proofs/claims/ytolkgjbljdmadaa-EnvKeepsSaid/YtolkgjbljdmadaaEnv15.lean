/- Rows that are written to, and what stays of an environment meanwhile. No condition beyond what each says. -/
import Derived.Test.YtolkgjbljdmadaaEnv14
namespace Go.Proofs.Ytolkgjbljdmadaa
open Go.RowKit Go.Shelf
set_option linter.unusedVariables false
set_option linter.unusedSimpArgs false

/-- a row of numbers in a block for which P holds -/
def WrRow (P : Nat → Prop) (w : World) (p : Option Addr) (e : TypeId) (n : Nat) : Prop := n = 0 ∨ ∃ g, p = some ⟨g, 0, none⟩ ∧ P g ∧ ∃ xs : List Int, xs.length = n ∧ Own w g e (xs.map (.int .i64))
theorem WrRow.chg {P S : Nat → Prop} {a b : World} {p : Option Addr} {e : TypeId} {n : Nat} (h : WrRow P a p e n) (hc : Chg S a b) (hs : ∀ j cs, a.heap[j]? = some (.cells cs e (0, 0)) → ¬ S j) : WrRow P b p e n := by
  rcases h with h | ⟨g, hp, hP, xs, hl, r, hr⟩
  · exact .inl h
  · exact .inr ⟨g, hp, hP, xs, hl, r, (hc.block g (Array.getElem?_eq_some_iff.1 hr).1 (hs g _ hr)).trans hr⟩
theorem WrRow.keep {P : Nat → Prop} {a b : World} {p : Option Addr} {e : TypeId} {n : Nat} (h : WrRow P a p e n) (hb : Below a.heap.size a b) : WrRow P b p e n :=
  h.chg (S := fun _ => False) (Chg.of_below hb) (fun _ _ _ h => h)
theorem own_set_any {w : World} {g : Nat} {e : TypeId} {xs : List Int} (h : Own w g e (xs.map (.int .i64))) (i : Nat) (v : Int) : ∃ ys : List Int, ys.length = xs.length ∧ Own (w.setCell ⟨g, i, none⟩ (.int .i64 v)) g e (ys.map (.int .i64)) := by
  by_cases hi : i < xs.length
  · refine ⟨xs.set i v, by simp, ?_⟩
    have := h.set (i := i) (by simpa using hi) (.int .i64 v)
    rw [List.map_set]
    exact this
  · obtain ⟨r, hr⟩ := h
    refine ⟨xs, rfl, r.set (i - xs.length) (.int .i64 v), ?_⟩
    simp only [World.setCell, Array.getElem?_modify, if_true, hr, Option.map_some]
    have e : (xs.map (Value.int .i64) ++ r).set i (.int .i64 v) = xs.map (Value.int .i64) ++ r.set (i - xs.length) (.int .i64 v) := by
      rw [List.set_append_right _ _ (by simp; omega)]
      simp
    simp [← e]
theorem WrRow.set {P : Nat → Prop} {w : World} {p : Option Addr} {e : TypeId} {n : Nat} (h : WrRow P w p e n) (g i : Nat) (v : Int) : WrRow P (w.setCell ⟨g, i, none⟩ (.int .i64 v)) p e n := by
  rcases h with h | ⟨g', hp, hP, xs, hl, ho⟩
  · exact .inl h
  · by_cases hg : g = g'
    · subst hg
      obtain ⟨ys, hy, ho'⟩ := own_set_any ho i v
      exact .inr ⟨g, hp, hP, ys, hy.trans hl, ho'⟩
    · exact .inr ⟨g', hp, hP, xs, hl, ho.other hg _⟩
theorem wr_of_new {P : Nat → Prop} {B : Nat} {w : World} {p : Option Addr} {e : TypeId} {xs : List Int} (h : New B w p e (xs.map (.int .i64))) (hP : ∀ g, B ≤ g → g < w.heap.size → P g) : WrRow P w p e xs.length := by
  rcases h with h | ⟨g, hp, hB, ho⟩
  · exact .inl (by simpa using congrArg List.length h)
  · exact .inr ⟨g, hp, hP g hB ho.lt, xs, rfl, ho⟩

def AllWr (P : Nat → Prop) (w : World) (os : List BV) : Prop := ∀ o ∈ os, WrRow P w o.sp 3 o.s.length ∧ WrRow P w o.dp 2 o.d.length
theorem AllWr.chg {P S : Nat → Prop} {a b : World} {os : List BV} (h : AllWr P a os) (hc : Chg S a b) (h1 : ∀ j cs, a.heap[j]? = some (.cells cs 3 (0, 0)) → ¬ S j) (h2 : ∀ j cs, a.heap[j]? = some (.cells cs 2 (0, 0)) → ¬ S j) : AllWr P b os :=
  fun o ho => ⟨(h o ho).1.chg hc h1, (h o ho).2.chg hc h2⟩
theorem AllWr.keep {P : Nat → Prop} {a b : World} {os : List BV} (h : AllWr P a os) (hb : Below a.heap.size a b) : AllWr P b os := fun o ho => ⟨(h o ho).1.keep hb, (h o ho).2.keep hb⟩
theorem AllWr.set {P : Nat → Prop} {w : World} {os : List BV} (h : AllWr P w os) (g i : Nat) (v : Int) : AllWr P (w.setCell ⟨g, i, none⟩ (.int .i64 v)) os := fun o ho => ⟨(h o ho).1.set g i v, (h o ho).2.set g i v⟩
theorem AllWr.append {P : Nat → Prop} {w : World} {os qs : List BV} (h : AllWr P w os) (k : AllWr P w qs) : AllWr P w (os ++ qs) := fun o ho => by
  rcases List.mem_append.1 ho with ho | ho
  · exact h o ho
  · exact k o ho
theorem AllWr.of_vals {P : Nat → Prop} {B : Nat} {w : World} {os : List BV} (h : Vals B w os) (hP : ∀ g, B ≤ g → g < w.heap.size → P g) : AllWr P w os := fun o ho => ⟨wr_of_new (h o ho).1 hP, wr_of_new (h o ho).2.1 hP⟩

theorem EnvAt.chg {S : Nat → Prop} {B g : Nat} {a b : World} {cs : List BV} (h : EnvAt B a g cs) (hc : Chg S a b) (hs : ∀ j, B ≤ j → j < a.heap.size → ¬ S j) : EnvAt B b g cs := by
  obtain ⟨h1, ⟨p, c, m, h2, h3, h4, h5⟩, h6, h7⟩ := h
  have hn : ∀ {p : Option Addr} {e : TypeId} {vs : List Value}, New B a p e vs → New B b p e vs := fun h => by
    rcases h with h | ⟨g, hp, hB, ho⟩
    · exact .inl h
    · exact .inr ⟨g, hp, hB, ho.chg hc (hs g hB ho.lt)⟩
  exact ⟨h1, ⟨p, c, m, h2.chg hc (hs g h1 h2.lt), hn h3, h4, h5.chg hc (hs m h4 h5.lt)⟩, fun x hx => let ⟨a1, a2, a3⟩ := h6 x hx; ⟨hn a1, hn a2, a3⟩, h7⟩

/-- a list under way, whose elements' rows are written to -/
structure OutSt (P : Nat → Prop) (C : Nat) (wC : World) (v : Value) (n : Nat) (os : List BV) (wr : World) : Prop where
  row : wr.ownsRow C 62 3 v n (rowsB os)
  wrs : AllWr P wr os
  chg : Chg P wC wr
theorem OutSt.keep {P : Nat → Prop} {C n : Nat} {wC a b : World} {v : Value} {os : List BV} (h : OutSt P C wC v n os a) (hb : Below a.heap.size a b) : OutSt P C wC v n os b :=
  ⟨row_chg h.row (S := fun _ => False) (Chg.of_below hb) (fun _ _ _ h => h), h.wrs.keep hb, h.chg.trans (Chg.of_below hb)⟩
theorem OutSt.set {P : Nat → Prop} {C n : Nat} {wC a : World} {v : Value} {os : List BV} (h : OutSt P C wC v n os a) {g : Nat} {e : TypeId} {vs : List Value} (hP : P g) (ho : Own a g e vs) (he : e ≠ 62) (i : Nat) (x : Int) : OutSt P C wC v n os (a.setCell ⟨g, i, none⟩ (.int .i64 x)) :=
  ⟨row_chg h.row (Chg.one g i _) (fun j cs hj hjg => own_type ho he (by rw [← hjg]; exact hj)), h.wrs.set g i x, h.chg.set (p := ⟨g, i, none⟩) hP _⟩
theorem OutSt.next {P : Nat → Prop} {C n m : Nat} {wC a b : World} {v v' : Value} {os qs : List BV} {o : Obj} (h : OutSt P C wC v n os a) (hq : AllWr P a qs) (hC : ∀ j, C ≤ j → P j) (hg : (a.alloc o).grownBy b v.ownBlock) (hr : b.ownsRow C 62 3 v' m (rowsB os ++ rowsB qs)) : OutSt P C wC v' m (os ++ qs) b := by
  have hba := below_alloc a o
  have hk := h.keep hba
  have hc := Chg.grown hg
  have hrow : ∀ j, some j = v.ownBlock → ∃ cs, (a.alloc o).heap[j]? = some (.cells cs 62 (0, 0)) ∧ C ≤ j := fun j hj => row_block hk.row hj
  refine ⟨by rw [rowsB_append]; exact hr, ((h.wrs.append hq).keep hba).chg hc (fun j ds hj hs => ?_) (fun j ds hj hs => ?_), hk.chg.trans (hc.mono fun j hj => hC j (hrow j hj).choose_spec.2)⟩
  · obtain ⟨cs, h1, -⟩ := hrow j hs
    rw [hj] at h1
    cases h1
  · obtain ⟨cs, h1, -⟩ := hrow j hs
    rw [hj] at h1
    cases h1
end Go.Proofs.Ytolkgjbljdmadaa
