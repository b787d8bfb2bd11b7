/- Whether all nodes of a tree are well-formed; right trees, in the reference. No condition beyond what each says. -/
import Derived.Test.YtjehgcmcphgofaaTr5
import Derived.Test.YtjehgcmcphgofaaTr6
import Derived.Test.YtjehgcmcphgofaaTr7
import Derived.Test.YtjehgcmcphgofaaTr9
namespace Go.Proofs.Ytjehgcmcphgofaa
open Go.RowKit Go.Shelf
set_option linter.unusedVariables false
set_option linter.unusedSimpArgs false

/-- the names of a tree are no longer than Go can tell -/
def NamesIn : TV → Prop
  | .nil => True
  | .mk d kids => d.name.size ≤ 9223372036854775807 ∧ ∀ i, i < d.n → NamesIn (kids i)
theorem NamesIn.kid {d : TD} {kids : Nat → TV} (h : NamesIn (.mk d kids)) {k : Nat} (hk : k < d.n) : NamesIn (kids k) := h.2 k hk
theorem node_any (d : TD) (kids : Nat → TV) (w : World) (hs : d.name.size ≤ 9223372036854775807) (h : TreeIn w (.mk d kids)) (r : Bool) (hr : nodeB d (kids 0).d.kind = r) : Calls Try.prog 48 #[.agg #[.int .i64 d.kind, .int .i64 d.fn, .int .i64 d.axis, .string d.name, .slice d.np d.nums.length d.nc, .slice d.kp d.n d.kc]] w fun e w' => e = .returned (.bool r) ∧ Below w.heap.size w w' := by
  subst hr
  unfold nodeB
  by_cases h1 : d.kind = 1
  · rw [if_pos h1]; exact node_1 d w h1
  · rw [if_neg h1]
    by_cases h2 : d.kind = 2
    · rw [if_pos h2]; exact node_2 d w h2 hs
    · rw [if_neg h2]
      by_cases h3 : d.kind = 3
      · rw [if_pos h3]; exact node_3 d w h3
      · rw [if_neg h3]
        by_cases h4 : d.kind = 4
        · rw [if_pos h4]
          by_cases hz : d.nums = []
          rotate_left
          · exact node_4l d _ w h4 hz
          by_cases hn : d.n = 2
          · obtain ⟨⟨g, o, e1, hg, N⟩, -⟩ := h.kid (k := 0) (by omega)
            have c0 := N.c0
            rw [Nat.zero_mul, Nat.add_zero] at c0
            exact node_4y d _ w h4 hz hn g o e1 hg c0
          · exact node_4n d _ w h4 hz hn
        · rw [if_neg h4]; exact node_0 d w h1 h2 h3 h4
/-- whether all nodes are well-formed -/
def nodesT : TV → Bool
  | .nil => false
  | .mk d kids => nodeB d (kids 0).d.kind && everyTo d.n fun i => nodesT (kids i)
theorem nodesT_mk (d : TD) (kids : Nat → TV) : nodesT (.mk d kids) = (nodeB d (kids 0).d.kind && everyTo d.n fun i => nodesT (kids i)) := rfl
def rightT (t : TV) : Bool := decide ((depthT t : Int) ≤ 100) && nodesT t

set_option maxHeartbeats 1000000 in
theorem nodes_step (d : TD) (kids : Nat → TV) (ih : ∀ i w r, nodesT (kids i) = r → NamesIn (kids i) → TreeIn w (kids i) → Calls Try.prog 32 #[.agg #[.int .i64 (kids i).d.kind, .int .i64 (kids i).d.fn, .int .i64 (kids i).d.axis, .string (kids i).d.name, .slice (kids i).d.np (kids i).d.nums.length (kids i).d.nc, .slice (kids i).d.kp (kids i).d.n (kids i).d.kc]] w fun e w' => e = .returned (.bool r) ∧ Below w.heap.size w w')
    (w : World) (r : Bool) (hr : nodesT (.mk d kids) = r) (hs : NamesIn (.mk d kids)) (h : TreeIn w (.mk d kids)) : Calls Try.prog 32 #[.agg #[.int .i64 d.kind, .int .i64 d.fn, .int .i64 d.axis, .string d.name, .slice d.np d.nums.length d.nc, .slice d.kp d.n d.kc]] w fun e w' => e = .returned (.bool r) ∧ Below w.heap.size w w' := by
  have hba := below_alloc w (.cells #[.int .i64 d.kind, .int .i64 d.fn, .int .i64 d.axis, .string d.name, .slice d.np d.nums.length d.nc, .slice d.kp d.n d.kc] 25)
  have A := At6.new w _ d 25 rfl
  have hn := h.small
  have HT := Lib.hid (h.keep hba)
  have IH := Lib.hid ih
  have HS := Lib.hid hs
  obtain ⟨x, hx⟩ : ∃ x, nodeB d (kids 0).d.kind = x := ⟨_, rfl⟩
  have HX := Lib.hid hx
  have HR : Hid (r = (x && everyTo d.n fun i => nodesT (kids i))) := by rw [Hid, ← hr, nodesT_mk, hx]
  have hb := hba
  clear h ih hs hx hba hr
  go_enter Try.func32, Try.ntmps32
  go_wp2_with fail
  refine (node_any d kids _ HS.out.1 HT.out x HX.out).mono ?_
  rintro e1 w1 ⟨rfl, hb1⟩
  have HT := Lib.hid (HT.out.keep hb1)
  have A := A.keep hb1
  have hb := below_t hb hb1
  clear hb1
  cases x with
  | false =>
    clear A
    go_wp2_with fail
    go_ret
    exact ⟨ret_bool (by rw [HR.out]; rfl), hb⟩
  | true =>
    have hA5 := A.c5
    have hAlt := A.lt
    have HB := Lib.hid hb
    clear A hb
    obtain ⟨q, hq⟩ : ∃ q, d.kp = q := ⟨_, rfl⟩
    have HQ := Lib.hid hq
    rw [hq] at hA5 ⊢
    clear hq
    go_wp2_with fail
    go_loopw [3] (fun i wr => ∃ (k : Nat) (wz : World), wz = wr ∧ k ≤ d.n ∧ i = .int .i64 k ∧ Hid (everyTo k (fun i => nodesT (kids i)) = true) ∧ Hid (Below w1.heap.size w1 wz)) (fun i _ => d.n - (intOf i).toNat)
    case atStart => exact ⟨0, w1, rfl, Nat.zero_le _, rfl, rfl, Below.refl _ _⟩
    case round =>
      obtain ⟨k, wz, rfl, hk, rfl, hY, hB⟩ := hrel
      have hA5 := (hB.out.cell (p := ⟨w.heap.size, 5, none⟩) hAlt).trans hA5
      by_cases hlt : k < d.n
      · have hi1 : (k : Int) < (d.n : Int) := by omega
        obtain ⟨⟨g, o, e1, hg, N⟩, hT⟩ := (HT.out.keep hB.out).kid hlt
        have c0 := N.c0
        have c1 := N.c1
        have c2 := N.c2
        have c3 := N.c3
        have c4 := N.c4
        have c5 := N.c5
        obtain rfl : q = some ⟨g, o, none⟩ := HQ.out.symm.trans e1
        obtain ⟨y, hy⟩ : ∃ y, nodesT (kids k) = y := ⟨_, rfl⟩
        have HY := Lib.hid hy
        have HTk := Lib.hid hT
        clear N hT e1 hy
        go_wp2_with fail
        refine (IH.out k _ y HY.out (HS.out.kid hlt) HTk.out).mono ?_
        rintro e w' ⟨rfl, hb'⟩
        have HB' := Lib.hid (below_t hB.out hb')
        clear c0 c1 c2 c3 c4 c5 hb'
        cases y with
        | true =>
          have HN : Hid (everyTo (k + 1) (fun i => nodesT (kids i)) = true) := by
            simp only [Hid, everyTo]
            rw [hY.out, HY.out]; rfl
          go_wp2_with fail
          go_roundw
          case rel => exact ⟨k + 1, w', rfl, by omega, by go_num, HN, HB'⟩
          case measure => simp [intOf]; omega
        | false =>
          have HN : Hid (r = false) := by rw [Hid, HR.out, everyTo_no hlt HY.out]; rfl
          go_wp2_with fail
          go_ret
          exact ⟨ret_bool HN.out.symm, below_t HB.out HB'.out⟩
      · have hi1 : ¬ (k : Int) < (d.n : Int) := by omega
        have HN : Hid (r = true) := by
          have h2 : k = d.n := by omega
          subst h2
          rw [Hid, HR.out, hY.out]; rfl
        go_wp2_with fail
        go_ret
        exact ⟨ret_bool HN.out.symm, below_t HB.out hB.out⟩
theorem nodes_any : ∀ (t : TV) (w : World) (r : Bool), nodesT t = r → NamesIn t → TreeIn w t → Calls Try.prog 32 #[.agg #[.int .i64 t.d.kind, .int .i64 t.d.fn, .int .i64 t.d.axis, .string t.d.name, .slice t.d.np t.d.nums.length t.d.nc, .slice t.d.kp t.d.n t.d.kc]] w fun e w' => e = .returned (.bool r) ∧ Below w.heap.size w w'
  | .nil, _, _, _, _, h => h.no
  | .mk d kids, w, r, hr, hs, h => nodes_step d kids (fun i => nodes_any (kids i)) w r hr hs h

set_option maxHeartbeats 1000000 in
theorem RRight_any (t : TV) (w : World) (hs : sizeT t ≤ 100000) (hN : NamesIn t) (h : TreeIn w t) (r : Bool) (hr : rightT t = r) : Calls Try.prog 11 #[.agg #[.int .i64 t.d.kind, .int .i64 t.d.fn, .int .i64 t.d.axis, .string t.d.name, .slice t.d.np t.d.nums.length t.d.nc, .slice t.d.kp t.d.n t.d.kc]] w fun e w' => e = .returned (.bool r) ∧ Below w.heap.size w w' := by
  have hb := below_alloc w (.cells #[.int .i64 t.d.kind, .int .i64 t.d.fn, .int .i64 t.d.axis, .string t.d.name, .slice t.d.np t.d.nums.length t.d.nc, .slice t.d.kp t.d.n t.d.kc] 25)
  have A := At6.new w _ t.d 25 rfl
  have ht := h.keep hb
  obtain ⟨y, hy⟩ : ∃ y, (depthT t : Int) = y := ⟨_, rfl⟩
  obtain ⟨x, hx⟩ : ∃ x, nodesT t = x := ⟨_, rfl⟩
  have HR : Hid (r = (decide (y ≤ 100) && x)) := by rw [Hid, ← hr, rightT, hy, hx]
  have HX := Lib.hid hx
  have HY := Lib.hid hy
  clear hr hx hy
  go_enter Try.func11, Try.ntmps11
  go_wp2_with fail
  refine (RDepth_is t y HY.out _ hs ht).mono ?_
  rintro e1 w1 ⟨rfl, hb1⟩
  have A := A.keep hb1
  have ht := ht.keep hb1
  have hb := below_t hb hb1
  clear hb1
  by_cases hd : y ≤ 100
  · have hd1 : decide (y ≤ 100) = true := by simpa using hd
    have HR : Hid (r = x) := by rw [Hid, HR.out, hd1]; rfl
    clear hd
    have hA0 := A.c0
    have hA1 := A.c1
    have hA2 := A.c2
    have hA3 := A.c3
    have hA4 := A.c4
    have hA5 := A.c5
    go_wp2_with fail
    refine (nodes_any t _ x HX.out hN ht).mono ?_
    rintro e2 w2 ⟨rfl, hb2⟩
    clear hA0
    clear hA1
    clear hA2
    clear hA3
    clear hA4
    clear hA5
    have hb := below_t hb hb2
    clear hb2
    clear A ht
    go_wp2_with fail
    go_ret
    exact ⟨ret_bool HR.out.symm, hb⟩
  · have hd1 : decide (y ≤ 100) = false := by simpa using hd
    have HR : Hid (r = false) := by rw [Hid, HR.out, hd1]; rfl
    clear hd A ht
    go_wp2_with fail
    go_ret
    exact ⟨ret_bool HR.out.symm, hb⟩
end Go.Proofs.Ytjehgcmcphgofaa
