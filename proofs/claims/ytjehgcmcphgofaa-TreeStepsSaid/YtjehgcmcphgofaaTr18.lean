/- slices.Backward at trees: what it hands to each round. No condition beyond what each says. -/
import Derived.Test.YtjehgcmcphgofaaTr17
namespace Go.Proofs.Ytjehgcmcphgofaa
open Go.RowKit Go.Shelf
set_option linter.unusedVariables false
set_option linter.unusedSimpArgs false
attribute [local go_sem] Oper.semAt_some

theorem rev_take {n k j : Nat} (h : k + j + 1 = n) : (List.range n).reverse.take k ++ [j] = (List.range n).reverse.take (((List.range n).reverse.take k).length + 1) := by
  have h1 : ((List.range n).reverse.take k).length = k := by simp; omega
  have h2 : (List.range n).reverse[k]? = some j := by
    rw [List.getElem?_reverse (by simp; omega), List.length_range, List.getElem?_range (by omega)]
    congr 1
    omega
  rw [h1, List.take_add_one, h2]
  rfl
theorem Backward_any (p : Option Addr) (n c : Nat) (w : World) :
    Calls Try.prog 49 #[.slice p n c] w fun e w' => e = .returned (.func (.func 55) #[] #[.pointer (some ⟨w.heap.size, 0, none⟩)]) ∧ w' = w.alloc (.cells #[.slice p n c] 23) := by
  go_enter Try.func49, Try.ntmps49
  go_wp2_with fail
  go_ret
  exact ⟨rfl, rfl⟩

set_option maxRecDepth 100000 in
set_option maxHeartbeats 2000000 in
theorem Backward1_seq (z : World) (d : TD) (kids : Nat → TV) (hT : TreeIn z (.mk d kids)) (w0 : World) (hz : Below z.heap.size z w0) (Bs : Nat) (ho : Own w0 Bs 23 [.slice d.kp d.n d.kc]) :
    SeqL 55 #[.pointer (some ⟨Bs, 0, none⟩)] (fun i : Nat => #[.int .i64 (i : Int), .agg #[.int .i64 (kids i).d.kind, .int .i64 (kids i).d.fn, .int .i64 (kids i).d.axis, .string (kids i).d.name, .slice (kids i).d.np (kids i).d.nums.length (kids i).d.nc, .slice (kids i).d.kp (kids i).d.n (kids i).d.kc]]) (KpS z.heap.size (fun k => k = Bs)) (List.range d.n).reverse w0 := by
  intro n l J Jx W hW _ hJ hJx hY h0
  have ho1 := ho.keep hW ho.lt
  have hzW : Below z.heap.size z W := hz.trans (hW.mono hz.size)
  have hc := ho1.cell (i := 0) rfl
  have hn := hT.small
  have HT := Lib.hid hT
  have HY := Lib.hid hY
  have HZ := Lib.hid hzW
  have H0 := Lib.hid h0
  have HO := Lib.hid ho1
  have hw1 : wrap64 ((d.n : Int) - 1) = d.n - 1 := wrap64_id (by omega) (by omega)
  have hw2 : IntKind.i64.wrap ((d.n : Int) - 1) = d.n - 1 := wrapK_id (by omega) (by omega)
  clear hT hY hz hzW h0 ho ho1 hW hJ hJx
  refine callsIn_of_wp Try.func55 rfl trivial ?_ rfl
  simp only [Try.ntmps55, List.size_toArray, List.length_cons, List.length_nil, Nat.reduceAdd, Nat.reduceSub, Array.replicate_succ, Array.replicate_zero, List.push_toArray, List.append_toArray, List.nil_append, List.cons_append]
  gi_wp2
  gi_loopw [3] (fun i wr => ∃ (k : Nat) (y : Int), k ≤ d.n ∧ i = .int .i64 y ∧ Hid (y = d.n - 1 - k) ∧ Hid (J ((List.range d.n).reverse.take k) wr) ∧ Hid (Below z.heap.size z wr) ∧ Hid (Own wr Bs 23 [.slice d.kp d.n d.kc])) (fun i _ => (intOf i + 1).toNat)
  case atStart => exact ⟨0, d.n - 1, Nat.zero_le _, rfl, by simp [Hid], H0.out, HZ.out, HO.out⟩
  case round =>
    obtain ⟨k, y, hk, rfl, HE, HJ, HB, HOw⟩ := hrel
    by_cases hy0 : 0 ≤ y
    · obtain ⟨j, rfl⟩ : ∃ j : Nat, y = j := ⟨y.toNat, by omega⟩
      have hkj : k + j + 1 = d.n := by have := HE.out; omega
      have hlt : j < d.n := by omega
      have hi1 : (j : Int) < (d.n : Int) := by omega
      have hcw := HOw.out.cell (i := 0) rfl
      obtain ⟨⟨g, o, e1, hg, N⟩, -⟩ := (HT.out.keep HB.out).kid hlt
      have c0 := N.c0
      have c1 := N.c1
      have c2 := N.c2
      have c3 := N.c3
      have c4 := N.c4
      have c5 := N.c5
      obtain ⟨q, hq⟩ : ∃ q, d.kp = q := ⟨_, rfl⟩
      rw [hq] at hcw
      obtain rfl : q = some ⟨g, o, none⟩ := hq.symm.trans e1
      have hj1 : wrap64 ((j : Int) - 1) = j - 1 := wrap64_id (by omega) (by omega)
      have hj2 : IntKind.i64.wrap ((j : Int) - 1) = j - 1 := wrapK_id (by omega) (by omega)
      obtain ⟨fn, tmps, assign, body, hy, hR⟩ := HY.out (n - 1) _ j wr HJ.out (rev_take hkj)
      have HR := Lib.hid hR
      have HKJ := Lib.hid hkj
      clear hR N e1 hq hy0 hkj hc
      gi_wp2
      refine ⟨(fun h => by cases h), HR.out.mono ?_⟩
      rintro e W3 ⟨⟨rfl, hJ3⟩ | ⟨rfl, hJx3⟩, hk3⟩
      · have HJ3 := Lib.hid hJ3
        have HB3 := Lib.hid (HB.out.trans hk3.below)
        have HO3 := Lib.hid (hk3.own HOw.out rfl (by decide))
        have HM := Lib.hid (rev_take HKJ.out)
        clear hJ3 hk3 c0 c1 c2 c3 c4 c5 hcw HR
        gi_wp2
        go_roundw
        case rel =>
          refine ⟨k + 1, (j : Int) - 1, by have := HKJ.out; omega, rfl, by have := HKJ.out; simp only [Hid]; omega, ?_, HB3.out, HO3.out⟩
          have h1 : ((List.range d.n).reverse.take k).length = k := by have := HKJ.out; simp; omega
          have := HM.out
          rw [h1] at this
          rw [Hid, ← this]
          exact HJ3.out
        case measure => simp [intOf]
      · gi_wp2
        refine bodyPost_ret (results_none rfl _ _ _) rfl ?_
        refine ⟨⟨_, rfl⟩, .inr ⟨_, by simp, ?_, hJx3⟩⟩
        rw [List.length_append]
        exact rev_take HKJ.out
    · have hd0 : decide (0 ≤ y) = false := by simpa using hy0
      have hkn : k = d.n := by have := HE.out; omega
      have hJn := HJ.out
      rw [List.take_of_length_le (by simp; omega)] at hJn
      clear hy0
      gi_wp2
      go_end0
      exact ⟨⟨_, rfl⟩, .inl hJn⟩
end Go.Proofs.Ytjehgcmcphgofaa
