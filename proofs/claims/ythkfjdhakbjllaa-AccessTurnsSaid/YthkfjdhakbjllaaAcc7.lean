/- The linear form's permute. Conditions: the axes are in range, the numbers not too large. -/
import Derived.Test.YthkfjdhakbjllaaAcc6
namespace Go.Proofs.Ythkfjdhakbjllaa
open Go.RowKit Go.Shelf
set_option linter.unusedVariables false
set_option linter.unusedSimpArgs false

/-- the strides after a change of axes, from a list on -/
def permF : List Int → List Int → List Int → List Int
  | j :: ps, y :: ys, o => permF ps ys (o.set j.toNat (nth o j.toNat + y))
  | _, _, o => o
theorem permF_step {ps ys o : List Int} {k : Nat} (h1 : k < ps.length) (h2 : k < ys.length) :
    permF (ps.drop k) (ys.drop k) o = permF (ps.drop (k + 1)) (ys.drop (k + 1)) (o.set (nth ps k).toNat (nth o (nth ps k).toNat + nth ys k)) := by
  rw [drop_nth h1, drop_nth h2, permF]
theorem permF_end {ps ys o : List Int} {k : Nat} (h : ps.length ≤ k) : permF (ps.drop k) (ys.drop k) o = o := by
  rw [List.drop_eq_nil_of_le h]
  cases ys.drop k <;> rfl

/-- a linear form that another list of strides has been given -/
def Permuted (w : World) (g : Nat) (x : Int) (outs : List Int) (rest : List Value) (e' : Ending) (w' : World) : Prop :=
  (∃ v, e' = .returned v) ∧ (∃ p'' c'', Lin w' g x p'' c'' outs rest ∧ Ints w' p'' outs ∧ (outs = [] ∨ ∃ h, p'' = some ⟨h, 0, none⟩ ∧ w.heap.size ≤ h)) ∧ Chg (fun j => j = g) w w'

set_option maxRecDepth 100000 in
set_option maxHeartbeats 4000000 in
theorem permute_any (g : Nat) (x : Int) (p' q : Option Addr) (c' d : Nat) (ys perm : List Int) (rest : List Value) (n : Nat) (w : World) (h : Lin w g x p' c' ys rest) (h' : Ints w p' ys) (h'' : Ints w q perm) (hl : perm.length = ys.length) (hp : perm.length ≤ 16) (hn : n ≤ 1000000) (hj : ∀ j ∈ perm, 0 ≤ j ∧ j < (n : Int)) (hy : ∀ y ∈ ys, -1099511627776 ≤ y ∧ y ≤ 1099511627776) :
    Calls Try.prog 112 #[.pointer (some ⟨g, 0, none⟩), .slice q perm.length d, .int .i64 n] w (Permuted w g x (permF perm ys (List.replicate n 0)) rest) := by
  have hg := Own.lt h
  have Hl := Lib.hid hl
  have Hj := Lib.hid hj
  have Hy := Lib.hid hy
  have hlen : perm.length ≤ ys.length := by omega
  have hysm : ys.length ≤ 16 := by omega
  clear hl hj hy
  go_enter Try.func112, Try.ntmps112
  go_wp2_with (at_make; refine make_ints rfl _ _ rfl n rfl rfl (by omega) ?_; intro w1 hown hgr)
  have hb1 := below_grown hgr
  have hgo := hown.lt
  clear hgr
  go_loopw [13] (fun i wr => ∃ (k : Nat) (o : List Int), k ≤ perm.length ∧ i = .int .i64 k ∧ o.length = n ∧ Own wr w.heap.size 3 (o.map (.int .i64)) ∧ Hid (permF (perm.drop k) (ys.drop k) o = permF perm ys (List.replicate n 0) ∧ ∀ u ∈ o, -(k * 1099511627776 : Int) ≤ u ∧ u ≤ k * 1099511627776) ∧ Below w.heap.size w wr) (fun i _ => perm.length - (intOf i).toNat)
  case atStart =>
    refine ⟨0, List.replicate n 0, Nat.zero_le _, rfl, by simp, hown, ⟨by simp, ?_⟩, hb1⟩
    intro u hu
    have := List.eq_of_mem_replicate hu
    subst this
    exact ⟨by simp, by simp⟩
  case round =>
    obtain ⟨k, o, hk, rfl, hol, ho, hI, hb⟩ := hrel
    have hL : Lin wr g x p' c' ys rest := Own.keep h hb hg
    have h0 := Own.cell hL (i := 1) rfl
    have hf0 := Own.frozen hL 1
    by_cases hlt : k < perm.length
    · have hlt2 : k < ys.length := by omega
      obtain ⟨b1, o1, rfl, hq1, hc⟩ := (h''.keep hb).at hlt
      obtain ⟨b2, o2, rfl, hq2, hc2⟩ := (h'.keep hb).at hlt2
      have hjk := Hj.out _ (nth_mem hlt)
      have hyk := Hy.out _ (nth_mem hlt2)
      obtain ⟨j, hjj⟩ : ∃ j : Nat, nth perm k = (j : Int) := ⟨(nth perm k).toNat, by omega⟩
      rw [hjj] at hjk hc
      have hjo : j < o.length := by omega
      have hjo2 : (j : Int) < (n : Int) := hjk.2
      have hki : (k : Int) < (perm.length : Int) := by omega
      have hki2 : (k : Int) < (ys.length : Int) := by omega
      have hcell := ho.cell (nth_map hjo)
      have hfr := ho.frozen j
      have hbd := hI.out.2 _ (nth_mem hjo)
      obtain ⟨u, hu⟩ : ∃ u, nth o j = u := ⟨_, rfl⟩
      obtain ⟨v, hv⟩ : ∃ v, nth ys k = v := ⟨_, rfl⟩
      rw [hu] at hcell hbd
      rw [hv] at hc2 hyk
      have Hstep : Hid (permF (perm.drop (k + 1)) (ys.drop (k + 1)) (o.set j (u + v)) = permF perm ys (List.replicate n 0)) := by
        have := hI.out.1
        rw [permF_step hlt hlt2, hjj, hv, Int.toNat_natCast, hu] at this
        exact this
      have Hbd : Hid (∀ z ∈ o.set j (u + v), -((k + 1 : Nat) * 1099511627776 : Int) ≤ z ∧ z ≤ (k + 1 : Nat) * 1099511627776) := by
        intro z hz
        rcases List.mem_or_eq_of_mem_set hz with hz | rfl
        · have := hI.out.2 z hz
          omega
        · omega
      have hu1 : -4000000000000000000 ≤ u ∧ u ≤ 4000000000000000000 := by omega
      have hv1 : -4000000000000000000 ≤ v ∧ v ≤ 4000000000000000000 := by omega
      have Hu1 := Lib.hid hu1
      have Hv1 := Lib.hid hv1
      have Hx : Hid (∀ z ∈ [u, v], I64 z) := by
        intro z hz
        simp at hz
        rcases hz with rfl | rfl <;> exact ⟨by omega, by omega⟩
      have hne1 : ¬ wr.heap.size = w.heap.size := by have := ho.lt; omega
      have hne2 : ¬ wr.heap.size = g := by have := hL.lt; omega
      have Hju := Lib.hid hjj
      clear hu hv hjj hjk hyk hbd hI hu1 hv1
      go_wp2_with fail
      go_region_with (first | (go_at_call 128; refine (total_two u v _ _ _ (by first | exact lit_drew _ _ [u, v] _ (by simp) Hx.out (by simp) | exact Ints.lit _ _ [u, v] _ (by simp) Hx.out (by simp)) Hu1.out Hv1.out).mono ?_; rintro e1 w2 ⟨rfl, hw2⟩; have hB : Below wr.heap.size wr w2 := (by rw [← hw2]; go_grown); have hcell2 := (hB.cell (p := ⟨w.heap.size, j, none⟩) ho.lt).trans hcell; have hfr2 := (hB.frozen (p := ⟨w.heap.size, j, none⟩) ho.lt).trans hfr; clear hw2))
      all_goals
        go_wp2_with fail
        go_roundw
        case rel =>
          refine ⟨k + 1, o.set j (u + v), by omega, by go_num, by rw [List.length_set]; exact hol, ?_, ⟨Hstep.out, Hbd.out⟩, (below_t hb hB).setCell (Nat.le_refl _) _⟩
          rw [← map_set]
          exact (ho.keep hB ho.lt).set (by simpa using hjo) _
        case measure => simp [intOf]; omega
    · have hlt' : perm.length ≤ k := by omega
      have hfin : permF perm ys (List.replicate n 0) = o := by
        have := hI.out.1
        rw [permF_end hlt'] at this
        exact this.symm
      have hol64 : ∀ u ∈ o, I64 u := fun u hu => by
        have := hI.out.2 u hu
        have : (k : Int) ≤ 16 := by omega
        exact ⟨by omega, by omega⟩
      have Hfin := Lib.hid hfin
      have Hol := Lib.hid hol
      have H64 := Lib.hid hol64
      clear hfin hol hol64 hI
      go_wp2
      go_end0
      have hgo' : w.heap.size ≠ g := by omega
      rw [Hfin.out]
      refine ⟨⟨_, rfl⟩, ⟨some ⟨w.heap.size, 0, none⟩, n, ?_, ?_, .inr ⟨_, rfl, Nat.le_refl _⟩⟩, ?_⟩
      · have := Own.set hL (i := 1) (by simp) (.slice (some ⟨w.heap.size, 0, none⟩) o.length n)
        rw [Hol.out] at this
        simpa [Lin, Hol.out] using this
      · have ho' := ho.other (a := ⟨g, 1, none⟩) (by show g ≠ w.heap.size; omega) (.slice (some ⟨w.heap.size, 0, none⟩) n n)
        exact ⟨.inr ⟨_, 0, rfl, ho'.lt, fun i u hu => by rw [Nat.zero_add]; exact ho'.cell hu⟩, H64.out, by rw [Hol.out]; omega⟩
      · exact (Chg.of_below (S := fun j => j = g) hb).set (p := ⟨g, 1, none⟩) rfl _
end Go.Proofs.Ythkfjdhakbjllaa
