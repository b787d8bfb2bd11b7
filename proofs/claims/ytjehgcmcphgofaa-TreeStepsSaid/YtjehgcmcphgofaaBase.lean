/- Words on slices that every text of this seat uses: the numbers that a slice holds in a world. No condition. -/
import Derived.Test.YtjehgcmcphgofaaChecked
import Derived.WalkKit
import Derived.ProofKit
import Derived.Lib.Hide
import Derived.Deep.QuietTactic
import Derived.BigQuiet
import Derived.Handy
import Derived.Shelf.Abstract
namespace Go.Proofs.Ytjehgcmcphgofaa
open Go.RowKit Go.Shelf

/-- a call through a function value that lies in a slot: what is called, once the value is known -/
def callVal (a : Act) (dst : Option Tmp) (t : Tmp) (xs : Array Operand) (ats : Array TypeId) (ty : TypeId) (pos : String) (after : Array Edge) (guard : Option (Nat × Bool)) (v : Value) : Sem Next :=
  match v with
  | .func (.func g) first lb => callFunc g (first ++ xs.map a.eval ++ lb)
  | _ => execOp a.eval { dst, op := .call { callee := .value (.tmp t), args := xs, argTypes := ats }, type := ty, pos, after, guard }

@[go_sem ↓] theorem execOp_call_val (a : Act) (dst : Option Tmp) (t : Tmp) (xs : Array Operand) (ats : Array TypeId) (ty : TypeId) (pos : String) (after : Array Edge) (guard : Option (Nat × Bool)) :
    execOp a.eval { dst, op := .call { callee := .value (.tmp t), args := xs, argTypes := ats }, type := ty, pos, after, guard } = callVal a dst t xs ats ty pos after guard (a.eval (.tmp t)) := by
  unfold callVal
  split
  · rename_i g first lb h
    unfold execOp
    simp only [resolve, invoke, h]
    rfl
  · rfl

@[go_sem] theorem callVal_func (a : Act) (dst : Option Tmp) (t : Tmp) (xs : Array Operand) (ats : Array TypeId) (ty : TypeId) (pos : String) (after : Array Edge) (guard : Option (Nat × Bool)) (g : FuncId) (first lb : Array Value) :
    callVal a dst t xs ats ty pos after guard (.func (.func g) first lb) = callFunc g (first ++ xs.map a.eval ++ lb) := rfl

/-- a number of 64 bits -/
def I64 (x : Int) : Prop := -9223372036854775808 ≤ x ∧ x ≤ 9223372036854775807
/-- element k of a list of numbers -/
def nth (xs : List Int) (k : Nat) : Int := xs.getD k 0

/-- the cells of a row, from its first address on -/
def Cells (w : World) (p : Option Addr) (vs : List Value) : Prop :=
  vs = [] ∨ ∃ b off, p = some ⟨b, off, none⟩ ∧ b < w.heap.size ∧ ∀ i u, vs[i]? = some u → w.cell? ⟨b, off + i, none⟩ = some u

theorem Cells.keep {w w' : World} {p : Option Addr} {vs : List Value} (h : Cells w p vs) (hb : Below w.heap.size w w') : Cells w' p vs := by
  rcases h with h | ⟨b, off, hp, hlt, hc⟩
  · exact .inl h
  · exact .inr ⟨b, off, hp, Nat.lt_of_lt_of_le hlt hb.size, fun i u hu => (hb.cell (p := ⟨b, off + i, none⟩) hlt).trans (hc i u hu)⟩

structure Ints (w : World) (p : Option Addr) (xs : List Int) : Prop where
  cells : Cells w p (xs.map (.int .i64))
  i64 : ∀ x ∈ xs, I64 x
  small : xs.length ≤ 9223372036854775807

theorem nth_mem {xs : List Int} {k : Nat} (hk : k < xs.length) : nth xs k ∈ xs := by
  unfold nth
  rw [List.getD_eq_getElem?_getD, List.getElem?_eq_getElem hk]
  exact List.getElem_mem hk

theorem nth_get? {xs : List Int} {k : Nat} (hk : k < xs.length) : xs[k]? = some (nth xs k) := by
  unfold nth
  rw [List.getD_eq_getElem?_getD, List.getElem?_eq_getElem hk]
  rfl

theorem take_nth {xs : List Int} {k : Nat} (hk : k < xs.length) : xs.take (k + 1) = xs.take k ++ [nth xs k] := by
  rw [List.take_add_one, nth_get? hk]
  rfl

theorem drop_nth {xs : List Int} {k : Nat} (hk : k < xs.length) : xs.drop k = nth xs k :: xs.drop (k + 1) := by
  rw [List.drop_eq_getElem_cons hk]
  congr 1
  have := nth_get? hk
  rw [List.getElem?_eq_getElem hk] at this
  exact Option.some.inj this

theorem Ints.at {w : World} {p : Option Addr} {xs : List Int} (h : Ints w p xs) {k : Nat} (hk : k < xs.length) :
    ∃ b off, p = some ⟨b, off, none⟩ ∧ b < w.heap.size ∧ w.cell? ⟨b, off + k, none⟩ = some (.int .i64 (nth xs k)) := by
  rcases h.cells with h' | ⟨b, off, hp, hlt, hc⟩
  · simp at h'
    subst h'
    simp at hk
  · exact ⟨b, off, hp, hlt, hc k _ (by simp [nth_get? hk])⟩

theorem Ints.nth {w : World} {p : Option Addr} {xs : List Int} (h : Ints w p xs) {k : Nat} (hk : k < xs.length) : I64 (nth xs k) := h.i64 _ (nth_mem hk)

theorem Ints.keep {w w' : World} {p : Option Addr} {xs : List Int} (h : Ints w p xs) (hb : Below w.heap.size w w') : Ints w' p xs :=
  ⟨h.cells.keep hb, h.i64, h.small⟩

theorem ret_int {k : IntKind} {a b : Int} (h : a = b) : Ending.returned (.int k a) = .returned (.int k b) := by rw [h]
theorem ret_bool {a b : Bool} (h : a = b) : Ending.returned (.bool a) = .returned (.bool b) := by rw [h]
theorem ret_int2 {k l : IntKind} {a b c d : Int} (h : a = b) (h' : c = d) : Ending.returned (.tuple #[.int k a, .int l c]) = .returned (.tuple #[.int k b, .int l d]) := by rw [h, h']
theorem ret_intb {k : IntKind} {a b : Int} {c d : Bool} (h : a = b) (h' : c = d) : Ending.returned (.tuple #[.int k a, .bool c]) = .returned (.tuple #[.int k b, .bool d]) := by rw [h, h']

/-- a literal's row: a new block -/
theorem Ints.lit (w : World) (b : Nat) (xs : List Int) (e : TypeId) (hb : b = w.heap.size) (hx : ∀ x ∈ xs, I64 x) (hs : xs.length ≤ 9223372036854775807) :
    Ints (w.alloc (.cells (xs.map (Value.int .i64)).toArray e)) (some ⟨b, 0, none⟩) xs := by
  subst hb
  refine ⟨.inr ⟨w.heap.size, 0, rfl, by simp, fun i u hu => ?_⟩, hx, hs⟩
  have := heap_alloc_new w (.cells (xs.map (Value.int .i64)).toArray e)
  rw [cell_of_row _ _ _ _ _ _ this]
  simpa using hu

/-- what the walk is told of a slice of integers that came in (the shell's own words) -/
def IsRow (k : IntKind) (w : World) (a : Option Addr) (len cap : Nat) (zs : List Int) : Prop :=
  (a = none ∧ len = 0 ∧ cap = 0 ∧ zs = []) ∨
  ∃ x, a = some x ∧ len ≤ cap ∧ cap ≤ maxLen ∧ zs.length = cap ∧ (∀ i, i < zs.length → w.cell? (x.add i) = some (.int k (zs.getD i 0))) ∧ ∀ n ∈ zs, (Lit.int k n).wf = true

theorem I64.of_wf {x : Int} (h : (Lit.int .i64 x).wf = true) : I64 x := by
  have := bounds_i64 h
  exact this

theorem IsRow.ints {w : World} {a : Option Addr} {len cap : Nat} {zs : List Int} (h : IsRow .i64 w a len cap zs) : ∃ xs : List Int, xs.length = len ∧ Ints w a xs := by
  rcases h with ⟨rfl, rfl, rfl, rfl⟩ | ⟨x, rfl, hl, hm, hz, hc, hw⟩
  · exact ⟨[], rfl, .inl rfl, by simp, by simp⟩
  · have hlen : (zs.take len).length = len := by simp; omega
    refine ⟨zs.take len, hlen, ?_, fun y hy => I64.of_wf (hw y (List.mem_of_mem_take hy)), by rw [hlen]; unfold maxLen at hm; omega⟩
    by_cases h0 : len = 0
    · subst h0
      exact .inl (by simp)
    · obtain ⟨b, off, spot⟩ := x
      have hc0 := hc 0 (by omega)
      have hspot : spot = none := by simpa [Addr.add] using World.cell?_spot hc0
      subst hspot
      have hblt := World.block_lt_of_cell? w _ hc0
      refine .inr ⟨b, off, rfl, by simpa [Addr.add] using hblt, fun i u hu => ?_⟩
      rw [List.getElem?_map, List.getElem?_take] at hu
      split at hu
      · have hi : i < zs.length := by omega
        have := hc i hi
        rw [List.getElem?_eq_getElem hi] at hu
        simp at hu
        subst hu
        rw [Addr.add_lit] at this
        simpa [hi] using this
      · simp at hu

/-- memory as it was, but for draws -/
def Quiet (w w' : World) : Prop := ∃ n, w' = w.drewN n

theorem quiet_add (w : World) (m n : Nat) : ∃ k, (w.drewN m).drewN n = w.drewN k := ⟨_, World.drewN_drewN ..⟩

theorem below_drewN (B : Nat) (w : World) : ∀ n, Below B w (w.drewN n)
  | 0 => Below.refl _ _
  | n + 1 => (below_drewN B w n).trans ((Below.refl B (w.drewN n)).drew)

/-- the place of the first number with a property, or -1 -/
def idx (p : Int → Bool) (xs : List Int) : Int := match xs.findIdx? p with | some i => (i : Int) | none => -1

theorem idx_any (p : Int → Bool) (xs : List Int) : decide (0 ≤ idx p xs) = xs.any p := by
  unfold idx
  cases h : xs.findIdx? p with
  | none =>
    have := List.findIdx?_eq_none_iff.1 h
    simp
    intro x hx
    simpa using this x hx
  | some i =>
    have h2 := List.findIdx?_eq_some_iff_getElem.1 h
    obtain ⟨hi, hp, _⟩ := h2
    have : xs.any p = true := List.any_eq_true.2 ⟨_, List.getElem_mem hi, hp⟩
    rw [this]
    simp

theorem idx_hit {p : Int → Bool} {xs : List Int} {k : Nat} (hk : k < xs.length) (hno : (xs.take k).any p = false) (hp : p (nth xs k) = true) : idx p xs = k := by
  unfold idx
  have : xs.findIdx? p = some k := by
    rw [List.findIdx?_eq_some_iff_getElem]
    have hg := nth_get? hk
    rw [List.getElem?_eq_getElem hk] at hg
    refine ⟨hk, by rw [Option.some.inj hg]; exact hp, fun j hj => ?_⟩
    rw [List.any_eq_false] at hno
    have := hno xs[j] (by rw [List.mem_take_iff_getElem]; exact ⟨j, by omega, rfl⟩)
    simpa using this
  rw [this]

theorem idx_miss {p : Int → Bool} {xs : List Int} (hno : xs.any p = false) : idx p xs = -1 := by
  have := idx_any p xs
  rw [hno] at this
  unfold idx at this ⊢
  split at this
  · simp at this
  · rfl

theorem any_take_succ {p : Int → Bool} {xs : List Int} {k : Nat} (hk : k < xs.length) (hno : (xs.take k).any p = false) (hp : p (nth xs k) = false) : (xs.take (k + 1)).any p = false := by
  rw [take_nth hk, List.any_append, hno]
  simp [hp]
end Go.Proofs.Ytjehgcmcphgofaa
