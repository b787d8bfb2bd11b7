/- one and texts of law 11; Bind at a nil environment. No condition beyond what each says. -/
import Derived.Test.YtolkgjbljdmadaaEnv11
namespace Go.Proofs.Ytolkgjbljdmadaa
open Go.RowKit Go.Shelf
set_option linter.unusedVariables false
set_option linter.unusedSimpArgs false

set_option maxHeartbeats 1000000 in
theorem one_any (n : Int) (hn : I64 n) (w : World) :
    Calls Try.prog 50 #[.int .i64 n] w fun e w' => (∃ g, e = .returned (.agg #[.slice none 0 0, .slice (some ⟨g, 0, none⟩) 1 1]) ∧ Ints w' (some ⟨g, 0, none⟩) [n]) ∧ Below w.heap.size w w' := by
  have HN := Lib.hid hn
  clear hn
  go_enter Try.func50, Try.ntmps50
  go_wp2_with fail
  refine bodyPost_ret (v := .agg #[.slice none 0 0, .slice (some ⟨w.heap.size + 1, 0, none⟩) 1 1]) (by simp [results, Try.results50, go_sem]) rfl ⟨⟨_, rfl, ?_⟩, ?_⟩
  · exact Ints.lit (w.alloc (.cells #[.slice none 0 0, .slice (some ⟨w.heap.size + 1, 0, none⟩) 1 1] 47)) (w.heap.size + 1) [n] 2 (by simp) (fun x hx => by rw [List.mem_singleton] at hx; subst hx; exact HN.out) (by simp)
  · exact below_t (below_alloc _ _) (below_alloc _ _)

set_option maxHeartbeats 2000000 in
theorem texts_yes (q p : Option Addr) (c d : Nat) (cs bs : List BV) (hs : SameB cs bs) (B : Nat) (w : World) (hq : New B w q 9 (strsOf cs)) (h : Binds w p bs) :
    Calls Try.prog 36 #[.slice q cs.length c, .slice p bs.length d] w fun e w' => e = .returned (.bool true) ∧ Below w.heap.size w w' := by
  have hsm := h.small
  obtain ⟨hl, hs⟩ := hs
  have hlb : ((cs.length : Int) != (bs.length : Int)) = false := by rw [hl]; simp
  have HL := Lib.hid hl
  have HS := Lib.hid hs
  have hsm' : cs.length ≤ 9223372036854775807 := by omega
  clear hl hs
  go_enter Try.func36, Try.ntmps36
  go_wp2_with fail
  go_loopw [5] (fun i wr => ∃ k m : Nat, k ≤ cs.length ∧ i = .int .i64 k ∧ wr = w.drewN m) (fun i _ => cs.length - (intOf i).toNat)
  case atStart => exact ⟨0, 0, Nat.zero_le _, rfl, rfl⟩
  case round =>
    obtain ⟨k, m, hk, rfl, rfl⟩ := hrel
    by_cases hlt : k < cs.length
    · have hlt' : k < bs.length := by have := HL.out; omega
      have hki : (k : Int) < (cs.length : Int) := by omega
      have hki' : (k : Int) < (bs.length : Int) := by omega
      obtain ⟨g, off, rfl, hg0, c0, -, -⟩ := h.at hlt'
      rcases hq with h0 | ⟨gn, rfl, hgn, hon⟩
      · have := congrArg List.length h0
        rw [strsOf_len] at this
        simp only [List.length_nil] at this
        omega
      have n0 := hon.cell (strs_at hlt)
      have hx := name_eq (HS.out k hlt).1
      have hx2 : ((bth cs k).name.toList != (bth bs k).name.toList) = false := by rw [(HS.out k hlt).1]; simp
      obtain ⟨x, hxx⟩ : ∃ x, (bth cs k).name = x := ⟨_, rfl⟩
      obtain ⟨y, hyy⟩ : ∃ y, (bth bs k).name = y := ⟨_, rfl⟩
      rw [hxx] at n0 hx hx2
      rw [hyy] at c0 hx hx2
      clear hxx hyy hon
      go_wp2_with fail
      go_quiet (fail)
      go_wp2_with fail
      go_roundw
      case rel => exact ⟨k + 1, _, by omega, by go_num, rfl⟩
      case measure => simp [intOf]; omega
    · have hki : ¬ (k : Int) < (cs.length : Int) := by omega
      go_wp2_with fail
      go_ret
      exact ⟨rfl, below_drewN _ _ _⟩

theorem Bind_nil (x : ByteArray) (p q : Option Addr) (n c m f : Nat) (w : World) :
    Calls Try.prog 26 #[.pointer none, .string x, .agg #[.slice p n c, .slice q m f]] w fun e w' => e = .returned (.tuple #[.pointer none, .int .i64 8]) ∧ Below w.heap.size w w' := by
  go_enter Try.func26, Try.ntmps26
  go_wp2_with fail
  go_ret2
  exact ⟨rfl, below_alloc _ _⟩
end Go.Proofs.Ytolkgjbljdmadaa
