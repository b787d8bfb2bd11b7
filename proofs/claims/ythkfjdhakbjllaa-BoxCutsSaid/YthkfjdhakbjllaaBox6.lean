/- What two boxes have in common: box.merged, box.Intersect. No condition beyond what each says. -/
import Derived.Test.YthkfjdhakbjllaaBox5
namespace Go.Proofs.Ythkfjdhakbjllaa
open Go.RowKit Go.Shelf
set_option linter.unusedVariables false
set_option linter.unusedSimpArgs false

def mixX (op : Int → Int → Int) (xs ys : List Int) : List Int := List.zipWith op xs ys
theorem mix_len {op : Int → Int → Int} {xs ys : List Int} (h : xs.length ≤ ys.length) : (mixX op xs ys).length = xs.length := by
  unfold mixX
  rw [List.length_zipWith]
  omega
theorem mix_nth {op : Int → Int → Int} {xs ys : List Int} {k : Nat} (h1 : k < xs.length) (h2 : k < ys.length) : nth (mixX op xs ys) k = op (nth xs k) (nth ys k) := by
  have h3 : k < (mixX op xs ys).length := by
    unfold mixX
    rw [List.length_zipWith]
    omega
  have e1 : nth (mixX op xs ys) k = (mixX op xs ys)[k] := by simp [nth, h3]
  have e2 : nth xs k = xs[k] := by simp [nth, h1]
  have e3 : nth ys k = ys[k] := by simp [nth, h2]
  rw [e1, e2, e3]
  simp [mixX]

/-- a call that returns a new row of numbers -/
def RowRet (xs : List Int) (w : World) (e : Ending) (w' : World) : Prop := (∃ r c, e = .returned (.slice r xs.length c) ∧ New w.heap.size w' r 3 (xs.map (.int .i64))) ∧ Below w.heap.size w w'
theorem rowRet {xs : List Int} {w w' : World} {n : Nat} (hn : n = xs.length) (r : Option Addr) (c : Nat) (h : New w.heap.size w' r 3 (xs.map (.int .i64))) (hb : Below w.heap.size w w') : RowRet xs w (.returned (.slice r n c)) w' := ⟨⟨r, c, by rw [hn], h⟩, hb⟩

theorem Merged_any (g : Nat) (op : Int → Int → Int) (eg : ∀ args w, (callFunc g args).run Try.prog w = .ok (.enter g args) w)
    (hp : ∀ x y w, Calls Try.prog g #[.int .i64 x, .int .i64 y] w fun e w' => e = .returned (.int .i64 (op x y)) ∧ w = w')
    (p q : Option Addr) (c f : Nat) (xs ys : List Int) (hle : xs.length ≤ ys.length) (hl : xs.length ≤ 1000000) (w : World) (h : Ints w p xs) (h' : Ints w q ys) :
    Calls Try.prog 90 #[.slice p xs.length c, .slice q ys.length f, .func (.func g) #[] #[]] w (RowRet (mixX op xs ys) w) := by
  have Hp := Lib.hid hp
  clear hp
  go_enter Try.func90, Try.ntmps90
  go_wp2_with fail
  have h0 : w.ownsRow w.heap.size 3 1 (.slice none 0 0) 0 (((mixX op xs ys).take 0).map (.int .i64)) := World.ownsRow_nil _ _ _ _
  go_loopw [7, 12] (fun v i wr => ∃ k : Nat, k ≤ xs.length ∧ i = .int .i64 k ∧ wr.ownsRow w.heap.size 3 1 v k (((mixX op xs ys).take k).map (.int .i64)) ∧ Below w.heap.size w wr) (fun _ i _ => xs.length - (intOf i).toNat)
  case atStart => exact ⟨0, Nat.zero_le _, rfl, h0, Below.refl _ _⟩
  case round =>
    obtain ⟨k, hk, rfl, hown, hbr⟩ := hrel
    clear h0
    by_cases hlt : k < xs.length
    · have hlt' : k < ys.length := by omega
      obtain ⟨b1, o1, rfl, -, hc⟩ := (h.keep hbr).at hlt
      obtain ⟨b2, o2, rfl, -, hc'⟩ := (h'.keep hbr).at hlt'
      have hi1 : (k : Int) < (xs.length : Int) := by omega
      have hi2 : (k : Int) < (ys.length : Int) := by omega
      have hml : k < (mixX op xs ys).length := by rw [mix_len hle]; exact hlt
      have Htk := Lib.hid (take_nth hml)
      have Hn := Lib.hid (mix_nth (op := op) hlt hlt')
      obtain ⟨x, hx⟩ : ∃ x, nth xs k = x := ⟨_, rfl⟩
      obtain ⟨y, hy⟩ : ∃ y, nth ys k = y := ⟨_, rfl⟩
      rw [hx] at hc Hn
      rw [hy] at hc' Hn
      clear hx hy hml
      have hsz := hbr.size
      go_wp2_with fail
      refine (Hp.out _ _ _).mono ?_
      rintro e w1 ⟨rfl, rfl⟩
      go_wp2_with (at_builtin; refine append_ints rfl _ _ rfl w.heap.size _ k _ rfl (hown.alloc _) (some ⟨wr.heap.size, 0, none⟩) 1 [op x y] rfl (cells_one _ _ _ _ rfl) (by simp; omega) (by simp; omega) ?_; intro v' w3 hown1 hg1)
      have hb1 := below_append hbr hown hg1
      go_roundw
      case rel => exact ⟨k + 1, by omega, by go_num, by rw [Htk.out, Hn.out, List.map_append]; exact hown1, hb1⟩
      case measure => simp [intOf]; omega
    · have hi1 : ¬ (k : Int) < (xs.length : Int) := by omega
      have hke : k = xs.length := by omega
      have hown : wr.ownsRow w.heap.size 3 1 u7 xs.length ((mixX op xs ys).map (.int .i64)) := by
        rw [hke, List.take_of_length_le (by rw [mix_len hle]; omega)] at hown
        exact hown
      obtain ⟨r, c', rfl, hN⟩ := row_new hown
      clear hke hown
      go_wp2_with fail
      go_ret
      exact rowRet (by simp) r c' hN hbr
end Go.Proofs.Ythkfjdhakbjllaa
