/- Steps over rows that are written to. No condition beyond what each says. -/
import Derived.Test.YtolkgjbljdmadaaEnv15
namespace Go.Proofs.Ytolkgjbljdmadaa
open Go.RowKit Go.Shelf
set_option linter.unusedVariables false
set_option linter.unusedSimpArgs false

theorem wr_at {P : Nat → Prop} {w : World} {p : Option Addr} {e : TypeId} {n k : Nat} (h : WrRow P w p e n) (hk : k < n) : ∃ g x, p = some ⟨g, 0, none⟩ ∧ P g ∧ w.cell? ⟨g, k, none⟩ = some (.int .i64 x) ∧ w.frozen? ⟨g, k, none⟩ = false ∧ ∃ vs, Own w g e vs := by
  rcases h with h | ⟨g, hp, hP, xs, hl, ho⟩
  · omega
  · have hx : k < xs.length := by omega
    exact ⟨g, xs[k], hp, hP, ho.cell (by simp [List.getElem?_eq_getElem hx]), ho.frozen k, _, ho⟩
theorem OutSt.join {P : Nat → Prop} {C n m : Nat} {wC a b : World} {v v' : Value} {os qs : List BV} (h : OutSt P C wC v n os a) (hq : AllWr P a qs) (hC : ∀ j, C ≤ j → P j) (hg : a.grownBy b v.ownBlock) (hr : b.ownsRow C 62 3 v' m (rowsB os ++ rowsB qs)) : OutSt P C wC v' m (os ++ qs) b := by
  have hc := Chg.grown hg
  have hrow : ∀ j, some j = v.ownBlock → ∃ cs, a.heap[j]? = some (.cells cs 62 (0, 0)) ∧ C ≤ j := fun j hj => row_block h.row hj
  refine ⟨by rw [rowsB_append]; exact hr, (h.wrs.append hq).chg hc (fun j ds hj hs => ?_) (fun j ds hj hs => ?_), h.chg.trans (hc.mono fun j hj => hC j (hrow j hj).choose_spec.2)⟩
  · obtain ⟨cs, h1, -⟩ := hrow j hs
    rw [hj] at h1
    cases h1
  · obtain ⟨cs, h1, -⟩ := hrow j hs
    rw [hj] at h1
    cases h1
theorem OutSt.at {P : Nat → Prop} {C n c : Nat} {wC w : World} {q : Option Addr} {os : List BV} (h : OutSt P C wC (.slice q n c) n os w) {k : Nat} (hk : k < os.length) :
    ∃ g off, q = some ⟨g, off, none⟩ ∧ w.cell? ⟨g, off + k * 3, none⟩ = some (.string (bth os k).name) ∧ w.cell? ⟨g, off + k * 3 + 1, none⟩ = some (.slice (bth os k).sp (bth os k).s.length (bth os k).sc) ∧ w.cell? ⟨g, off + k * 3 + 2, none⟩ = some (.slice (bth os k).dp (bth os k).d.length (bth os k).dc) := by
  rcases (row_new3 h.row).cells with h' | ⟨g, off, hp, hlt, hc⟩
  · have := rowsB_len os
    rw [h'] at this
    simp at this
    omega
  · refine ⟨g, off, hp, ?_, ?_, ?_⟩
    · exact hc (k * 3 + 0) _ (by rw [rowsB_at hk (by omega)]; rfl)
    · exact hc (k * 3 + 1) _ (by rw [rowsB_at hk (by omega)]; rfl)
    · exact hc (k * 3 + 2) _ (by rw [rowsB_at hk (by omega)]; rfl)
/-- a round's own state: a name's array in a variable, its shape in a row -/
structure InSt (P : Nat → Prop) (C : Nat) (wC : World) (v : Value) (n : Nat) (os : List BV) (b : BV) (pr : Option Addr) (m gv : Nat) (wr : World) : Prop where
  out : OutSt P C wC v n os wr
  all : AllWr P wr [b]
  row : WrRow P wr pr 3 m
  var : Own wr gv 47 [.slice b.sp b.s.length b.sc, .slice b.dp b.d.length b.dc]
theorem InSt.set {P : Nat → Prop} {C n m gv : Nat} {wC a : World} {v : Value} {os : List BV} {b : BV} {pr : Option Addr} (h : InSt P C wC v n os b pr m gv a) {g : Nat} {vs : List Value} (hP : P g) (ho : Own a g 3 vs) (i : Nat) (x : Int) : InSt P C wC v n os b pr m gv (a.setCell ⟨g, i, none⟩ (.int .i64 x)) :=
  ⟨h.out.set hP ho (by decide) i x, h.all.set g i x, h.row.set g i x, h.var.other (a := ⟨g, i, none⟩) (fun e => by
    obtain ⟨r, hr⟩ := h.var
    exact own_type ho (e' := 47) (by decide) (e ▸ hr)) _⟩

/-- blocks that the law writes to: the copy's, and all that came after the environment -/
def PK (A B C : Nat) (j : Nat) : Prop := (A ≤ j ∧ j < B) ∨ C ≤ j
theorem PK.ge {A B C j : Nat} (h : PK A B C j) (hAB : A ≤ B) (hBC : B ≤ C) : A ≤ j := by unfold PK at h; omega
theorem PK.not {A B C j : Nat} (h1 : B ≤ j) (h2 : j < C) : ¬ PK A B C j := by unfold PK; omega
theorem PK.hi {A B C : Nat} : ∀ j, C ≤ j → PK A B C j := fun j h => .inr h
theorem PK.lo {A B C : Nat} : ∀ g, A ≤ g → g < B → PK A B C g := fun g h k => .inl ⟨h, k⟩
end Go.Proofs.Ytolkgjbljdmadaa
