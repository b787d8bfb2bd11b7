/- Whether a node is well-formed: tree.formed. No condition beyond what each says. -/
import Derived.Test.YtjehgcmcphgofaaTr11
import Derived.Deep.DeepCutAuto
namespace Go.Proofs.Ytjehgcmcphgofaa
open Go.RowKit Go.Shelf
set_option linter.unusedVariables false
set_option linter.unusedSimpArgs false

/-- three cells are written -/
def set3 (w : World) (g : Nat) (x y z : Value) : World := ((w.setCell ⟨g, 0, none⟩ x).setCell ⟨g, 1, none⟩ y).setCell ⟨g, 2, none⟩ z
theorem below_set {B : Nat} {w w' : World} (h : Below B w w') {g : Nat} (hg : B ≤ g) (i : Nat) (v : Value) : Below B w (w'.setCell ⟨g, i, none⟩ v) := h.setCell (p := ⟨g, i, none⟩) hg v
theorem set3_below {B : Nat} {w w' : World} (h : Below B w w') {g : Nat} (hg : B ≤ g) (x y z : Value) : Below B w (set3 w' g x y z) := below_set (below_set (below_set h hg 0 x) hg 1 y) hg 2 z
theorem set3_own {w : World} {g : Nat} {e : TypeId} {a b c : Value} (h : Own w g e [a, b, c]) (x y z : Value) : Own (set3 w g x y z) g e [x, y, z] := ((h.set (i := 0) (by simp) x).set (i := 1) (by simp) y).set (i := 2) (by simp) z
theorem Own.ne {w : World} {g k : Nat} {e e' : TypeId} {us vs : List Value} (h : Own w g e us) (h' : Own w k e' vs) (he : e ≠ e') : g ≠ k := by
  rintro rfl
  obtain ⟨_, o1⟩ := h
  obtain ⟨_, o2⟩ := h'
  rw [o1] at o2
  simp only [Option.some.injEq, Obj.cells.injEq] at o2
  exact he o2.2.1
theorem own_set3 {z : World} {g k : Nat} {e e' : TypeId} {us vs : List Value} (h : Own z k e us) (ho : Own z g e' vs) (he : e' ≠ e) (x y u : Value) : Own (set3 z g x y u) k e us :=
  ((h.other (a := ⟨g, 0, none⟩) (ho.ne h he) x).other (a := ⟨g, 1, none⟩) (ho.ne h he) y).other (a := ⟨g, 2, none⟩) (ho.ne h he) u
theorem new_set3 {z : World} {g B : Nat} {p : Option Addr} {e e' : TypeId} {us vs : List Value} (h : New B z p e us) (ho : Own z g e' vs) (he : e' ≠ e) (x y u : Value) : New B (set3 z g x y u) p e us := by
  rcases h with h | ⟨k, hp, hB, h⟩
  · exact .inl h
  · exact .inr ⟨k, hp, hB, own_set3 h ho he x y u⟩
/-- the rule of a node in a variable -/
structure FormSt (W : World) (k : Int) (p : Option Addr) (fs : List Int) (a : Option Addr) (xa : List Int) (kk : Int) (ok : Bool) (g : Nat) (z : World) : Prop where
  own : Own z g 51 [.slice p fs.length fs.length, .slice a xa.length xa.length, .int .i64 kk]
  rule : ruleT k = (fs, xa, kk, ok)
  fns : Ints z p fs
  axes : Ints z a xa
  below : Below W.heap.size W z
theorem form_L1 {W w1 : World} {b : Nat} {k : Int} {p : Option Addr} {fs : List Int} {a : Option Addr} {xa : List Int} {kk : Int} {ok : Bool} (hb1 : Below (W.alloc (.cells #[.slice none 0 0, .slice none 0 0, .int .i64 0] 51)).drew.heap.size (W.alloc (.cells #[.slice none 0 0, .slice none 0 0, .int .i64 0] 51)).drew w1) (h : RuleGot w1 b k p fs a xa kk ok) :
    Own w1 W.heap.size 51 [.slice none 0 0, .slice none 0 0, .int .i64 0] ∧ FormSt W k p fs a xa kk ok W.heap.size (set3 w1 W.heap.size (.slice p fs.length fs.length) (.slice a xa.length xa.length) (.int .i64 kk)) := by
  have h0 : Own (W.alloc (.cells #[.slice none 0 0, .slice none 0 0, .int .i64 0] 51)).drew W.heap.size 51 [.slice none 0 0, .slice none 0 0, .int .i64 0] := Own.made W _ [.slice none 0 0, .slice none 0 0, .int .i64 0] 51 rfl
  have h1 := h0.keep hb1 h0.lt
  exact ⟨h1, set3_own h1 _ _ _, h.rule, (new_set3 h.fns h1 (by decide) _ _ _).ints h.sf.1 (by have := h.sf.2; omega), (new_set3 h.axes h1 (by decide) _ _ _).ints h.sa.1 (by have := h.sa.2; omega), set3_below (below_t ((below_alloc W _).drew) hb1) (Nat.le_refl _) _ _ _⟩
theorem form_L2 {W w1 : World} {b : Nat} {k : Int} {p : Option Addr} {fs : List Int} {a : Option Addr} {xa : List Int} {kk : Int} {ok : Bool} (hb1 : Below W.drew.heap.size W.drew w1) (h : RuleGot w1 b k p fs a xa kk ok) :
    FormSt W k p fs a xa kk ok w1.heap.size (w1.alloc (.cells #[.slice p fs.length fs.length, .slice a xa.length xa.length, .int .i64 kk] 51)) := by
  have hba := below_alloc w1 (.cells #[.slice p fs.length fs.length, .slice a xa.length xa.length, .int .i64 kk] 51)
  exact ⟨Own.made w1 _ [.slice p fs.length fs.length, .slice a xa.length xa.length, .int .i64 kk] _ rfl, h.rule, ((h.fns.keep' hba)).ints h.sf.1 (by have := h.sf.2; omega), (h.axes.keep' hba).ints h.sa.1 (by have := h.sa.2; omega), below_t ((Below.refl _ W).drew) (below_t hb1 hba)⟩
/-- whether a node is well-formed, as the program asks -/
def formB (d : TD) (k0 : Int) (fs xa : List Int) (kk : Int) (ok : Bool) : Bool :=
  ok && (fs.any (fun x => d.fn == x) && (axisT d xa && (decide ((d.n : Int) = kk) && ((if d.kind = 2 then nameB d.name else empB d) && ((decide (d.kind = 1) || decide (d.nums = [])) && (decide (d.kind ≠ 4) || (decide (d.fn = 6) || (decide (k0 = 1) || decide (k0 = 2)))))))))
theorem formB_is {d : TD} {k0 : Int} {fs xa : List Int} {kk : Int} {ok : Bool} (h : ruleT d.kind = (fs, xa, kk, ok)) : formB d k0 fs xa kk ok = nodeB d k0 := by
  unfold ruleT at h
  unfold nodeB
  by_cases h1 : d.kind = 1
  · rw [if_pos h1] at h ⊢
    simp only [Prod.mk.injEq] at h
    obtain ⟨rfl, rfl, rfl, rfl⟩ := h
    rw [Bool.eq_iff_iff]
    simp [formB, nodeB1, axisT, axB, h1]
    intro _ _
    exact ⟨fun ⟨x, y⟩ => ⟨y, x⟩, fun ⟨x, y⟩ => ⟨y, x⟩⟩
  · rw [if_neg h1] at h ⊢
    by_cases h2 : d.kind = 2
    · rw [if_pos h2] at h ⊢
      simp only [Prod.mk.injEq] at h
      obtain ⟨rfl, rfl, rfl, rfl⟩ := h
      rw [Bool.eq_iff_iff]
      simp [formB, nodeB2, axisT, axB, h2]
      intro _ _
      exact ⟨fun ⟨x, y, z⟩ => ⟨y, z, x⟩, fun ⟨y, z, x⟩ => ⟨x, y, z⟩⟩
    · rw [if_neg h2] at h ⊢
      by_cases h3 : d.kind = 3
      · rw [if_pos h3] at h ⊢
        simp only [Prod.mk.injEq] at h
        obtain ⟨rfl, rfl, rfl, rfl⟩ := h
        rw [Bool.eq_iff_iff]
        simp [formB, nodeB3, axisT, axB, h3]
        constructor
        · rintro ⟨a, b, c, e, f⟩; exact ⟨e, f, by omega, by omega⟩
        · rintro ⟨a, b, c, e⟩; exact ⟨by omega, by omega, by omega, a, b⟩
      · rw [if_neg h3] at h ⊢
        by_cases h4 : d.kind = 4
        · rw [if_pos h4] at h ⊢
          simp only [Prod.mk.injEq] at h
          obtain ⟨rfl, rfl, rfl, rfl⟩ := h
          rw [Bool.eq_iff_iff]
          simp [formB, nodeB4, axisT, axB, h4]
          constructor
          · rintro ⟨a, b, c, e, f, g⟩; exact ⟨e, f, by omega, by omega, by omega, by omega, by omega⟩
          · rintro ⟨a, b, c, e, f, g, i⟩; exact ⟨by omega, by omega, by omega, a, b, by omega⟩
        · rw [if_neg h4] at h ⊢
          simp only [Prod.mk.injEq] at h
          obtain ⟨rfl, rfl, rfl, rfl⟩ := h
          simp [formB]
end Go.Proofs.Ytjehgcmcphgofaa
