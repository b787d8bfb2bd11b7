/- The strides that the reference returns. No condition. -/
import Derived.Test.YtfifjokmhhakkaaDoorAid
import Derived.Test.YtfifjokmhhakkaaDoorApp
namespace Go.Proofs.YtfifjokmhhakkaaDoor
open Go.RowKit Go.Shelf
set_option linter.unusedVariables false

theorem strideS_cases {s : List Int} (hz : shapeS s = 0) : (cellsS s = 0 ∧ strideS s = List.replicate s.length 0) ∨ (cellsS s ≠ 0 ∧ strideS s = strs s ∧ (∀ x ∈ s, 0 < x) ∧ prod s ≤ 65536) := by
  have hs := shapeS_zero.1 hz
  unfold strideS
  rw [if_pos hz]
  by_cases hc : cellsS s = 0
  · exact .inl ⟨hc, if_pos hc⟩
  · obtain ⟨h1, -, h3⟩ := hs.pos hc
    exact .inr ⟨hc, if_neg hc, h1, h3⟩

theorem take_len {xs : List Int} {k : Nat} (h : k ≤ xs.length) : (xs.take k).length = k := by simp; omega

set_option maxHeartbeats 2000000 in
theorem RefStrides_any (a : Option Addr) (c : Nat) (s : List Int) (w : World) (h : Ints w a s) :
    Calls Tryd.prog 17 #[.slice a s.length c] w fun e w' => (∃ p c', e = .returned (.slice p (strideS s).length c') ∧ New w.heap.size w' p 3 ((strideS s).map (.int .i64))) ∧ Below w.heap.size w w' := by
  by_cases hz : shapeS s = 0
  · have hs := shapeS_zero.1 hz
    have hl := hs.len
    have hsl : (strideS s).length = s.length := by
      rcases strideS_cases hz with ⟨-, h2⟩ | ⟨-, h2, -, -⟩
      · rw [h2, List.length_replicate]
      · rw [h2, strs_len]
    have Hsl := Lib.hid hsl
    have Hcs := Lib.hid (strideS_cases hz)
    clear hsl
    go_enter Tryd.func17, Tryd.ntmps17
    go_wp2_with fail
    refine (RefCheck_any _ _ _ _ h).mono ?_
    rintro e w' ⟨rfl, rfl⟩
    go_wp2_with fail
    go_loopw [3, 4] (fun o i wr => ∃ (k : Nat), k ≤ s.length ∧ i = .int .i64 k ∧ wr.ownsRow w.heap.size 3 1 o k (((strideS s).take k).map (.int .i64)) ∧ Below w.heap.size w wr) (fun _ i _ => s.length - (intOf i).toNat)
    case atStart => exact ⟨0, Nat.zero_le _, rfl, by simpa using World.ownsRow_nil _ _ _ _, Below.refl _ _⟩
    case round =>
      obtain ⟨k, hk, rfl, hown, hbr⟩ := hrel
      by_cases hlt : k < s.length
      · have hkl : k < (strideS s).length := by rw [Hsl.out]; exact hlt
        have Htk := Lib.hid (take_nth hkl)
        have hbs := hbr.size
        rcases Hcs.out with ⟨hc0, hst⟩ | ⟨hc0, hst, hp, hb⟩
        · have hq : nth (strideS s) k = 0 := by
            have := nth_mem hkl
            rw [hst] at this ⊢
            exact List.eq_of_mem_replicate (by rw [← hst]; rw [hst]; exact this)
          have Hq := Lib.hid hq
          clear hst hq
          go_wp2_with fail
          refine (RefCells_any _ _ _ _ (h.keep hbr)).mono ?_
          rintro e w' ⟨rfl, rfl⟩
          go_wp2_with fail
          go_loop [5, 6] (fun n i => n = .int .i64 0 ∧ i = .int .i64 ((k : Int) + 1)) (fun _ _ => 0)
          case atStart => exact ⟨rfl, rfl⟩
          case round =>
            obtain ⟨rfl, rfl⟩ := hrel
            by_cases hk1 : k + 1 < s.length
            all_goals
              go_wp2_with (at_builtin; refine append_ints rfl _ _ rfl w.heap.size _ k _ rfl (hown.alloc _) (some ⟨wr.heap.size, 0, none⟩) 1 [0] rfl (cells_one _ _ _ _ rfl) (by simp; omega) (by simp; omega) ?_; intro v' w1 hown1 hg1)
              have hb1 := below_append hbr hown hg1
              go_roundw
              case rel => exact ⟨k + 1, by omega, by go_num, by rw [Htk.out, Hq.out, List.map_append]; exact hown1, hb1⟩
              case measure => simp [intOf]; omega
        · have hq : nth (strideS s) k = prod (s.drop (k + 1)) := by rw [hst, strs_nth s k hlt]
          have Hq := Lib.hid hq
          have Hp := Lib.hid hp
          have Hb := Lib.hid hb
          have hcb : (cellsS s == 0) = false := by simp [hc0]
          clear hst hq hp hb
          go_wp2_with fail
          refine (RefCells_any _ _ _ _ (h.keep hbr)).mono ?_
          rintro e w' ⟨rfl, rfl⟩
          go_wp2_with fail
          go_loop [5, 6] (fun n i => ∃ (j : Nat) (q : Int), k + 1 ≤ j ∧ j ≤ s.length ∧ i = .int .i64 j ∧ n = .int .i64 q ∧ 0 < q ∧ Hid (q * prod (s.drop j) = prod (s.drop (k + 1)))) (fun _ i => s.length - (intOf i).toNat)
          case atStart => exact ⟨k + 1, 1, Nat.le_refl _, by omega, by go_num, rfl, by omega, by simp [Hid]⟩
          case round =>
            obtain ⟨j, q, hj1, hj2, rfl, rfl, hq0, hI⟩ := hrel
            have hpd := prod_drop_le Hp.out (k + 1)
            have hpj : ∀ i, 0 < prod (s.drop i) := fun i => prod_pos fun x hx => Hp.out x (List.mem_of_mem_drop hx)
            by_cases hjl : j < s.length
            · obtain ⟨b1, o1, rfl, -, hc⟩ := (h.keep hbr).at hjl
              have hst := prod_drop_step hjl
              have h1 := hpj (j + 1)
              have h2 : q * nth s j * prod (s.drop (j + 1)) = prod (s.drop (k + 1)) := by rw [← hI.out, hst, Int.mul_assoc, Int.mul_comm (nth s j)]
              have hx := Hp.out _ (nth_mem hjl)
              have h3 : 0 < q * nth s j := Int.mul_pos hq0 hx
              have h4 := le_mul_pos (a := q * nth s j) (by omega) h1
              have h5 : q * nth s j ≤ 65536 := by have := Hb.out; omega
              have H2 := Lib.hid h2
              clear h2 hst h4 hpj hpd h1
              go_wp2
              go_round
              case rel => exact ⟨j + 1, _, by omega, by omega, by go_num, rfl, h3, H2.out⟩
              case measure => simp [intOf]; omega
            · have hqe : q = prod (s.drop (k + 1)) := by
                have := hI.out
                rw [List.drop_eq_nil_of_le (by omega), prod_nil, Int.mul_one] at this
                exact this
              have Hqe := Lib.hid hqe
              clear hqe hpj hpd
              go_wp2_with (at_builtin; refine append_ints rfl _ _ rfl w.heap.size _ k _ rfl (hown.alloc _) (some ⟨wr.heap.size, 0, none⟩) 1 [q] rfl (cells_one _ _ _ _ rfl) (by simp; omega) (by simp; omega) ?_; intro v' w1 hown1 hg1)
              have hb1 := below_append hbr hown hg1
              go_roundw
              case rel => exact ⟨k + 1, by omega, by go_num, by rw [Htk.out, Hq.out, ← Hqe.out, List.map_append]; exact hown1, hb1⟩
              case measure => simp [intOf]; omega
      · go_wp2
        obtain ⟨p, c', rfl, hnew⟩ := row_new hown
        rw [List.take_of_length_le (by rw [Hsl.out]; omega)] at hnew ⊢
        go_ret
        refine ⟨⟨p, c', ?_, hnew⟩, hbr⟩
        simp
  · have e : strideS s = [] := by unfold strideS; rw [if_neg hz]
    rw [e]
    clear e
    have hb : (shapeS s != 0) = true := by simp [hz]
    go_enter Tryd.func17, Tryd.ntmps17
    go_wp2_with fail
    refine (RefCheck_any _ _ _ _ h).mono ?_
    rintro e w' ⟨rfl, rfl⟩
    go_wp2_with fail
    go_ret
    exact ⟨⟨none, 0, rfl, .inl rfl⟩, Below.refl _ _⟩
end Go.Proofs.YtfifjokmhhakkaaDoor
