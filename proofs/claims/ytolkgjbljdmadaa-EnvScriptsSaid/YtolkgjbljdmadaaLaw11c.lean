/- The law EnvScripts, walked: it returns true at all arguments and writes nothing that was there. Condition: the argument's length is within its capacity, as of every slice. -/
import Derived.Test.YtolkgjbljdmadaaLaw11b
namespace Go.Proofs.Ytolkgjbljdmadaa
open Go.RowKit Go.Shelf
set_option linter.unusedVariables false
set_option linter.unusedSimpArgs false

theorem right_nil : RightP [] := fun k hk => by simp at hk
theorem right_one (b : BV) : okB b = true ↔ RightP [b] := by
  constructor
  · intro h k hk
    have : k = 0 := by simp at hk; omega
    subst this
    exact ⟨h, fun j hj => by omega⟩
  · intro h
    exact (h 0 (by simp)).1
/-- the environment on the way, and the reference's list -/
def Scr (B : Nat) (wr : World) (k g : Nat) (cs ws : List BV) (pw : Option Addr) : Prop := EnvAt B wr g cs ∧ Binds wr pw ws ∧ SameB ws cs ∧ ws.length ≤ k
theorem Scr.keep {B : Nat} {a z : World} {k g : Nat} {cs ws : List BV} {pw : Option Addr} (h : Scr B a k g cs ws pw) (hb : Below a.heap.size a z) {k' : Nat} (hk : k ≤ k') : Scr B z k' g cs ws pw :=
  ⟨h.1.keep hb, h.2.1.keep hb, h.2.2.1, Nat.le_trans h.2.2.2 hk⟩
theorem binds_sub {w : World} {g off : Nat} {bs : List BV} (h : Binds w (some ⟨g, off, none⟩) bs) {k : Nat} (hk : k < bs.length) : Binds w (some ⟨g, off + k * 3, none⟩) [bth bs k] := by
  obtain ⟨g', off', he, hg, c0, c1, c2⟩ := h.at hk
  cases he
  refine ⟨.inr ⟨g, _, rfl, hg, fun i u hu => ?_⟩, fun b hb => ?_, by simp⟩
  · have hl : (rowsB [bth bs k]).length = 3 := rowsB_len _
    have hi := (List.getElem?_eq_some_iff.1 hu).1
    rw [hl] at hi
    match i, hi with
    | 0, _ => cases hu; exact c0
    | 1, _ => cases hu; exact c1
    | 2, _ => cases hu; exact c2
  · rw [List.mem_singleton] at hb
    subst hb
    exact h.vals _ (bth_mem hk)

set_option maxRecDepth 100000 in
set_option maxHeartbeats 8000000 in
theorem EnvScripts_main (p : Option Addr) (c : Nat) (bs : List BV) (w : World) (h : Binds w p bs) (hc : bs.length ≤ c) (hf : fewB bs 300 = true) :
    Calls Try.prog 7 #[.slice p bs.length c] w fun e w' => e = .returned (.bool true) ∧ Below w.heap.size w w' := by
  have HF := Lib.hid hf
  have hl := fewB_len hf
  clear hf
  go_enter Try.func7, Try.ntmps7
  go_wp2_with fail
  refine (awake11 _).mono ?_
  rintro e1 w1 ⟨rfl, hb⟩
  go_wp2_with fail
  refine (Few_is p c bs 300 true HF.out _ (h.keep hb)).mono ?_
  rintro e2 w2 ⟨rfl, hb1⟩
  have hb := below_t hb hb1
  clear hb1
  go_wp2_with fail
  refine (New_yes none 0 [] right_nil (by simp) _ ⟨.inl rfl, fun b hb => (by cases hb), by simp⟩).mono ?_
  rintro e3 w3 ⟨⟨g0, cs0, rfl, E0, hS0⟩, hb1⟩
  have hbs := hb.size
  have hb := below_t hb hb1
  clear hb1
  have hst : Hid (Scr w.heap.size w3 0 g0 cs0 [] none) := ⟨E0.mono hbs, ⟨.inl rfl, fun b hb => (by cases hb), by simp⟩, hS0, by simp⟩
  clear E0 hS0 HF
  go_wp2_with fail
  go_loopw [3, 5, 6, 7, 8] (fun e wn hf md i wr => ∃ (k g gh cw cm nw nm : Nat) (cs hs ws ms : List BV) (pw pm : Option Addr), k ≤ bs.length ∧ e = .pointer (some ⟨g, 0, none⟩) ∧ wn = .slice pw nw cw ∧ hf = .pointer (some ⟨gh, 0, none⟩) ∧ md = .slice pm nm cm ∧ i = .int .i64 k ∧ Below w.heap.size w wr ∧ Hid (Scr w.heap.size wr k g cs ws pw ∧ ws.length = nw) ∧ Hid (Scr w.heap.size wr k gh hs ms pm ∧ ms.length = nm)) (fun _ _ _ _ i _ => bs.length - (intOf i).toNat)
  case atStart => exact ⟨0, g0, g0, 0, 0, 0, 0, cs0, cs0, [], [], none, none, Nat.zero_le _, rfl, rfl, rfl, rfl, rfl, hb, ⟨hst.out, rfl⟩, ⟨hst.out, rfl⟩⟩
  case round =>
    obtain ⟨k, g, gh, cw, cm, nw, nm, cs, hs, ws, ms, pw, pm, hk, rfl, rfl, rfl, rfl, rfl, hbw, HI, HH⟩ := hrel
    clear hst hb
    by_cases hlt : k < bs.length
    · have hB := h.keep hbw
      obtain ⟨gp, off, rfl, hg0, c0, c1, c2⟩ := hB.at hlt
      obtain ⟨i1, i2, i3⟩ := hB.vals _ (bth_mem hlt)
      have hsub := binds_sub hB hlt
      obtain ⟨b, hbb⟩ : ∃ b, bth bs k = b := ⟨_, rfl⟩
      rw [hbb] at c0 c1 c2 i1 i2 i3 hsub
      have hki : (k : Int) < (bs.length : Int) := by omega
      have hkc : (k : Int) + 1 ≤ (c : Int) := by omega
      have HSUB := Lib.hid hsub
      clear hbb hsub hB
      go_wp2_with fail
      cases hok : okB b with
      | false =>
        have hro := right_one b
        rw [hok] at hro
        have HRO := Lib.hid hro
        clear hro hok
        refine (Right_any false _ (c - k) [b] HRO.out _ HSUB.out).mono ?_
        rintro e4 w4 ⟨rfl, hb4⟩
        have hbw4 := below_t hbw hb4
        have HI4 := Lib.hid (And.intro (HI.out.1.keep hb4 (Nat.le_succ k)) HI.out.2)
        have HH4 := Lib.hid (And.intro (HH.out.1.keep hb4 (Nat.le_succ k)) HH.out.2)
        clear HI HH hb4 c0 c1 c2
        go_wp2_with fail
        go_roundw
        case rel => exact ⟨k + 1, g, gh, _, _, _, _, cs, hs, ws, ms, pw, pm, by omega, rfl, rfl, rfl, rfl, by go_num, hbw4, HI4, HH4⟩
        case measure => simp [intOf]; omega
      | true =>
        have hro := right_one b
        rw [hok] at hro
        have HRO := Lib.hid hro
        have HOK := Lib.hid hok
        clear hro hok
        refine (Right_any true _ (c - k) [b] HRO.out _ HSUB.out).mono ?_
        rintro e4 w4 ⟨rfl, hb4⟩
        have hbw4 := below_t hbw hb4
        have hg4 := Nat.lt_of_lt_of_le hg0 hb4.size
        have c0 := (hb4.cell (p := ⟨gp, off + k * 3, none⟩) hg0).trans c0
        have c1 := (hb4.cell (p := ⟨gp, off + k * 3 + 1, none⟩) hg0).trans c1
        have c2 := (hb4.cell (p := ⟨gp, off + k * 3 + 2, none⟩) hg0).trans c2
        obtain ⟨ds, hdl, hB, hRB⟩ := bind_pair HI.out.1.2.2.1 (right_same HI.out.1.2.2.1.symm HI.out.1.1.right) (by have := HI.out.1.2.2.2; omega) b i3
        rw [HI.out.2] at hRB
        have HD := Lib.hid hdl
        have HB := Lib.hid hB
        have HRB := Lib.hid hRB
        have hKS : Keeps (fun w' => (gp < w'.heap.size ∧ w'.cell? ⟨gp, off + k * 3, none⟩ = some (.string b.name)) ∧ (gp < w'.heap.size ∧ w'.cell? ⟨gp, off + k * 3 + 1, none⟩ = some (.slice b.sp b.s.length b.sc)) ∧ (gp < w'.heap.size ∧ w'.cell? ⟨gp, off + k * 3 + 2, none⟩ = some (.slice b.dp b.d.length b.dc))) := (keeps_cell _ _ _).and ((keeps_cell _ _ _).and (keeps_cell _ _ _))
        have hS := hKS _ _ ⟨⟨hg4, c0⟩, ⟨hg4, c1⟩, ⟨hg4, c2⟩⟩ (Below.refl _ _)
        have hkp : (0 : Int) ≤ (k : Int) := by omega
        clear c0 c1 c2 hdl hB hRB HSUB
        go_wp2_with fail
        refine wp_region_noPanic ?_
        refine wp_region_held_drew (S := (fun w' => (gp < w'.heap.size ∧ w'.cell? ⟨gp, off + k * 3, none⟩ = some (.string b.name)) ∧ (gp < w'.heap.size ∧ w'.cell? ⟨gp, off + k * 3 + 1, none⟩ = some (.slice b.sp b.s.length b.sc)) ∧ (gp < w'.heap.size ∧ w'.cell? ⟨gp, off + k * 3 + 2, none⟩ = some (.slice b.dp b.d.length b.dc)))) (by kernel_rfl) ?_ (fun hHeld => ?_)
        · (try dsimp only); exact hKS _ _ (by first | exact hHeld | exact hS) (by first | assumption | (go_grown; done) | (refine from_drew ?_; go_grown; done))
        refine takeH 0 (some 44) (v := ?_) rfl rfl (by kernel_rfl) (by kernel_rfl) (by kernel_rfl) (by rfl) ?_ (by exact hHeld) ?_
        rotate_left
        · intro w hSw; (try dsimp only at hSw); go_simp; try (with_reducible rfl)
        try simp only [Act.put, List.setIfInBounds_toArray, List.set_cons_zero, List.set_cons_succ]
        refine takeH 1 (some 45) (v := ?_) rfl rfl (by kernel_rfl) (by kernel_rfl) (by kernel_rfl) (by rfl) ?_ (by exact hHeld) ?_
        rotate_left
        · intro w hSw; (try dsimp only at hSw); go_simp; try (with_reducible rfl)
        try simp only [Act.put, List.setIfInBounds_toArray, List.set_cons_zero, List.set_cons_succ]
        refine takeH 2 (some 46) (v := ?_) rfl rfl (by kernel_rfl) (by kernel_rfl) (by kernel_rfl) (by rfl) ?_ (by exact hHeld) ?_
        rotate_left
        · intro w hSw; (try dsimp only at hSw); go_simp; try (with_reducible rfl)
        try simp only [Act.put, List.setIfInBounds_toArray, List.set_cons_zero, List.set_cons_succ]
        refine takeH 3 (some 47) (v := ?_) rfl rfl (by kernel_rfl) (by kernel_rfl) (by kernel_rfl) (by rfl) ?_ (by exact hHeld) ?_
        rotate_left
        · intro w hSw; (try dsimp only at hSw); go_simp; try (with_reducible rfl)
        try simp only [Act.put, List.setIfInBounds_toArray, List.set_cons_zero, List.set_cons_succ]
        refine takeH 4 (some 48) (v := ?_) rfl rfl (by kernel_rfl) (by kernel_rfl) (by kernel_rfl) (by rfl) ?_ (by exact hHeld) ?_
        rotate_left
        · intro w hSw; (try dsimp only at hSw); go_simp; try (with_reducible rfl)
        try simp only [Act.put, List.setIfInBounds_toArray, List.set_cons_zero, List.set_cons_succ]
        refine takeH 5 (some 49) (v := ?_) rfl rfl (by kernel_rfl) (by kernel_rfl) (by kernel_rfl) (by rfl) ?_ (by exact hHeld) ?_
        rotate_left
        · intro w hSw; (try dsimp only at hSw); go_simp; try (with_reducible rfl)
        try simp only [Act.put, List.setIfInBounds_toArray, List.set_cons_zero, List.set_cons_succ]
        refine takeH 6 (some 50) (v := ?_) rfl rfl (by kernel_rfl) (by kernel_rfl) (by kernel_rfl) (by rfl) ?_ (by exact hHeld) ?_
        rotate_left
        · intro w hSw; (try dsimp only at hSw); go_simp; try (with_reducible rfl)
        try simp only [Act.put, List.setIfInBounds_toArray, List.set_cons_zero, List.set_cons_succ]
        refine takeH 7 (some 51) (v := ?_) rfl rfl (by kernel_rfl) (by kernel_rfl) (by kernel_rfl) (by rfl) ?_ (by exact hHeld) ?_
        rotate_left
        · intro w hSw; (try dsimp only at hSw); go_simp; try (with_reducible rfl)
        try simp only [Act.put, List.setIfInBounds_toArray, List.set_cons_zero, List.set_cons_succ]
        refine takeH 8 (some 52) (v := ?_) rfl rfl (by kernel_rfl) (by kernel_rfl) (by kernel_rfl) (by rfl) ?_ (by exact hHeld) ?_
        rotate_left
        · intro w hSw; (try dsimp only at hSw); go_simp; try (with_reducible rfl)
        try simp only [Act.put, List.setIfInBounds_toArray, List.set_cons_zero, List.set_cons_succ]
        refine takeH 9 (some 53) (v := ?_) rfl rfl (by kernel_rfl) (by kernel_rfl) (by kernel_rfl) (by rfl) ?_ (by exact hHeld) ?_
        rotate_left
        · intro w hSw; (try dsimp only at hSw); go_simp; try (with_reducible rfl)
        try simp only [Act.put, List.setIfInBounds_toArray, List.set_cons_zero, List.set_cons_succ]
        refine takeH 10 (some 54) (v := ?_) rfl rfl (by kernel_rfl) (by kernel_rfl) (by kernel_rfl) (by rfl) ?_ (by exact hHeld) ?_
        rotate_left
        · intro w hSw; (try dsimp only at hSw); go_simp; try (with_reducible rfl)
        try simp only [Act.put, List.setIfInBounds_toArray, List.set_cons_zero, List.set_cons_succ]
        refine wpAnyH_ready (rs := [11]) (by kernel_rfl) (by simp) ?_
        refine stepH 11 rfl (by rfl) (fun K hK => ?_) ?_
        · go_simp
          ((with_reducible refine (HB.out w.heap.size _ _ ?_ ?_ ?_).mono ?_); (exact HI.out.1.1.keep (below_t hb4 ((Below.refl _ _).drew))); (exact i1.keep (below_t hb4 ((Below.refl _ _).drew))); (exact i2.keep (below_t hb4 ((Below.refl _ _).drew))); rintro e5 w5 ⟨hret, hb5'⟩; rw [HOK.out, if_pos rfl] at hret; obtain ⟨g5, fs, rfl, E5, hS5'⟩ := hret)
          refine hK.out _ _ ?_ (fun hNew => ?_)
          · (try dsimp only); exact hKS _ _ (by first | exact hHeld | exact hS) (by first | assumption | (go_grown; done) | (refine from_drew ?_; go_grown; done))
          clear hK K hHeld
          have hHeld := hNew
          clear hNew
          try dsimp only at hHeld
          try simp only [Act.put, List.setIfInBounds_toArray, List.set_cons_zero, List.set_cons_succ]
          refine takeH 12 (some 43) (v := ?_) rfl rfl (by kernel_rfl) (by kernel_rfl) (by kernel_rfl) (by rfl) ?_ (by exact hHeld) ?_
          rotate_left
          · intro w hSw; (try dsimp only at hSw); go_simp; try (with_reducible rfl)
          try simp only [Act.put, List.setIfInBounds_toArray, List.set_cons_zero, List.set_cons_succ]
          refine takeH 13 (some 56) (v := ?_) rfl rfl (by kernel_rfl) (by kernel_rfl) (by kernel_rfl) (by rfl) ?_ (by exact hHeld) ?_
          rotate_left
          · intro w hSw; (try dsimp only at hSw); go_simp; try (with_reducible rfl)
          try simp only [Act.put, List.setIfInBounds_toArray, List.set_cons_zero, List.set_cons_succ]
          refine takeH 14 (some 57) (v := ?_) rfl rfl (by kernel_rfl) (by kernel_rfl) (by kernel_rfl) (by rfl) ?_ (by exact hHeld) ?_
          rotate_left
          · intro w hSw; (try dsimp only at hSw); go_simp; try (with_reducible rfl)
          try simp only [Act.put, List.setIfInBounds_toArray, List.set_cons_zero, List.set_cons_succ]
          refine takeH 15 (some 9) (v := ?_) rfl rfl (by kernel_rfl) (by kernel_rfl) (by kernel_rfl) (by rfl) ?_ (by exact hHeld) ?_
          rotate_left
          · intro w hSw; (try dsimp only at hSw); go_simp; try (with_reducible rfl)
          try simp only [Act.put, List.setIfInBounds_toArray, List.set_cons_zero, List.set_cons_succ]
          refine takeH 16 (some 10) (v := ?_) rfl rfl (by kernel_rfl) (by kernel_rfl) (by kernel_rfl) (by rfl) ?_ (by exact hHeld) ?_
          rotate_left
          · intro w hSw; (try dsimp only at hSw); go_simp; try (with_reducible rfl)
          try simp only [Act.put, List.setIfInBounds_toArray, List.set_cons_zero, List.set_cons_succ]
          refine wpAnyH_done (by kernel_rfl) ?_ _
          refine NoPanic.normal ?_
          have hb5 := below_t ((Below.refl _ _).drew) hb5'
          have HE5 := Lib.hid (E5.mono (B' := w.heap.size) (by have := hbw4.size; exact this))
          have HS5 := Lib.hid hS5'
          have hS5 := hHeld
          clear E5 hS5' hHeld hb5'
          go_wp2_with fail
          refine wp_region_noPanic ?_
          refine wp_region_held_drew (S := (fun w' => (gp < w'.heap.size ∧ w'.cell? ⟨gp, off + k * 3, none⟩ = some (.string b.name)) ∧ (gp < w'.heap.size ∧ w'.cell? ⟨gp, off + k * 3 + 1, none⟩ = some (.slice b.sp b.s.length b.sc)) ∧ (gp < w'.heap.size ∧ w'.cell? ⟨gp, off + k * 3 + 2, none⟩ = some (.slice b.dp b.d.length b.dc)))) (by kernel_rfl) ?_ (fun hHeld => ?_)
          · (try dsimp only); exact hKS _ _ (by first | exact hHeld | exact hS5) (by first | assumption | (go_grown; done) | (refine from_drew ?_; go_grown; done))
          refine takeH 0 (some 65) (v := ?_) rfl rfl (by kernel_rfl) (by kernel_rfl) (by kernel_rfl) (by rfl) ?_ (by exact hHeld) ?_
          rotate_left
          · intro w hSw; (try dsimp only at hSw); go_simp; try (with_reducible rfl)
          try simp only [Act.put, List.setIfInBounds_toArray, List.set_cons_zero, List.set_cons_succ]
          refine takeH 1 (some 66) (v := ?_) rfl rfl (by kernel_rfl) (by kernel_rfl) (by kernel_rfl) (by rfl) ?_ (by exact hHeld) ?_
          rotate_left
          · intro w hSw; (try dsimp only at hSw); go_simp; try (with_reducible rfl)
          try simp only [Act.put, List.setIfInBounds_toArray, List.set_cons_zero, List.set_cons_succ]
          refine takeH 2 (some 67) (v := ?_) rfl rfl (by kernel_rfl) (by kernel_rfl) (by kernel_rfl) (by rfl) ?_ (by exact hHeld) ?_
          rotate_left
          · intro w hSw; (try dsimp only at hSw); go_simp; try (with_reducible rfl)
          try simp only [Act.put, List.setIfInBounds_toArray, List.set_cons_zero, List.set_cons_succ]
          refine takeH 3 (some 68) (v := ?_) rfl rfl (by kernel_rfl) (by kernel_rfl) (by kernel_rfl) (by rfl) ?_ (by exact hHeld) ?_
          rotate_left
          · intro w hSw; (try dsimp only at hSw); go_simp; try (with_reducible rfl)
          try simp only [Act.put, List.setIfInBounds_toArray, List.set_cons_zero, List.set_cons_succ]
          refine takeH 4 (some 69) (v := ?_) rfl rfl (by kernel_rfl) (by kernel_rfl) (by kernel_rfl) (by rfl) ?_ (by exact hHeld) ?_
          rotate_left
          · intro w hSw; (try dsimp only at hSw); go_simp; try (with_reducible rfl)
          try simp only [Act.put, List.setIfInBounds_toArray, List.set_cons_zero, List.set_cons_succ]
          refine takeH 5 (some 70) (v := ?_) rfl rfl (by kernel_rfl) (by kernel_rfl) (by kernel_rfl) (by rfl) ?_ (by exact hHeld) ?_
          rotate_left
          · intro w hSw; (try dsimp only at hSw); go_simp; try (with_reducible rfl)
          try simp only [Act.put, List.setIfInBounds_toArray, List.set_cons_zero, List.set_cons_succ]
          refine takeH 6 (some 71) (v := ?_) rfl rfl (by kernel_rfl) (by kernel_rfl) (by kernel_rfl) (by rfl) ?_ (by exact hHeld) ?_
          rotate_left
          · intro w hSw; (try dsimp only at hSw); go_simp; try (with_reducible rfl)
          try simp only [Act.put, List.setIfInBounds_toArray, List.set_cons_zero, List.set_cons_succ]
          refine takeH 7 (some 72) (v := ?_) rfl rfl (by kernel_rfl) (by kernel_rfl) (by kernel_rfl) (by rfl) ?_ (by exact hHeld) ?_
          rotate_left
          · intro w hSw; (try dsimp only at hSw); go_simp; try (with_reducible rfl)
          try simp only [Act.put, List.setIfInBounds_toArray, List.set_cons_zero, List.set_cons_succ]
          refine takeH 8 (some 73) (v := ?_) rfl rfl (by kernel_rfl) (by kernel_rfl) (by kernel_rfl) (by rfl) ?_ (by exact hHeld) ?_
          rotate_left
          · intro w hSw; (try dsimp only at hSw); go_simp; try (with_reducible rfl)
          try simp only [Act.put, List.setIfInBounds_toArray, List.set_cons_zero, List.set_cons_succ]
          refine takeH 9 (some 74) (v := ?_) rfl rfl (by kernel_rfl) (by kernel_rfl) (by kernel_rfl) (by rfl) ?_ (by exact hHeld) ?_
          rotate_left
          · intro w hSw; (try dsimp only at hSw); go_simp; try (with_reducible rfl)
          try simp only [Act.put, List.setIfInBounds_toArray, List.set_cons_zero, List.set_cons_succ]
          refine takeH 10 (some 75) (v := ?_) rfl rfl (by kernel_rfl) (by kernel_rfl) (by kernel_rfl) (by rfl) ?_ (by exact hHeld) ?_
          rotate_left
          · intro w hSw; (try dsimp only at hSw); go_simp; try (with_reducible rfl)
          try simp only [Act.put, List.setIfInBounds_toArray, List.set_cons_zero, List.set_cons_succ]
          refine wpAnyH_ready (rs := [11]) (by kernel_rfl) (by simp) ?_
          refine stepH 11 rfl (by rfl) (fun K hK => ?_) ?_
          · go_simp
            ((with_reducible refine (HRB.out _ _ _ ?_ ?_ ?_).mono ?_); (exact HI.out.1.2.1.keep (below_t (below_t hb4 hb5) ((Below.refl _ _).drew))); (exact i1.keep (below_t (below_t hb4 hb5) ((Below.refl _ _).drew))); (exact i2.keep (below_t (below_t hb4 hb5) ((Below.refl _ _).drew))); rintro e6 w6 ⟨⟨q6, c6, rfl, hB6⟩, hb6⟩)
            refine hK.out _ _ ?_ (fun hNew => ?_)
            · (try dsimp only); exact hKS _ _ (by first | exact hHeld | exact hS5) (by first | assumption | (go_grown; done) | (refine from_drew ?_; go_grown; done))
            clear hK K hHeld
            have hHeld := hNew
            clear hNew
            try dsimp only at hHeld
            try simp only [Act.put, List.setIfInBounds_toArray, List.set_cons_zero, List.set_cons_succ]
            refine takeH 12 (some 5) (v := ?_) rfl rfl (by kernel_rfl) (by kernel_rfl) (by kernel_rfl) (by rfl) ?_ (by exact hHeld) ?_
            rotate_left
            · intro w hSw; (try dsimp only at hSw); go_simp; try (with_reducible rfl)
            try simp only [Act.put, List.setIfInBounds_toArray, List.set_cons_zero, List.set_cons_succ]
            refine wpAnyH_done (by kernel_rfl) ?_ _
            refine NoPanic.normal ?_
            have hbz := below_t hb5 (below_t ((Below.refl _ _).drew) hb6)
            have hbw6 := below_t hbw4 hbz
            have hA6 := Lib.hid (EnvAt.keep HE5.out (below_t ((Below.refl _ _).drew) hb6))
            have HH6 := Lib.hid (And.intro (HH.out.1.keep (below_t hb4 hbz) (Nat.le_succ k)) HH.out.2)
            have HN := Lib.hid (And.intro (⟨hA6.out, hB6, HS5.out, by have := HD.out; have := HI.out.1.2.2.2; omega⟩ : Scr w.heap.size w6 (k + 1) g5 fs ds q6) (rfl : ds.length = ds.length))
            clear hB6 hA6 HRB HB HI HH HE5 HS5 hb6 hb5 hb4 hbz
            cases hq : ((k : Int) == (bs.length : Int) / 2)
            · go_wp2_with fail
              go_roundw
              case rel => exact ⟨k + 1, g5, gh, _, _, _, _, fs, hs, ds, ms, q6, pm, by omega, rfl, rfl, rfl, rfl, by go_num, hbw6, HN, HH6⟩
              case measure => simp [intOf]; omega
            · go_wp2_with fail
              go_roundw
              case rel => exact ⟨k + 1, g5, g5, _, _, _, _, fs, fs, ds, ds, q6, q6, by omega, rfl, rfl, rfl, rfl, by go_num, hbw6, HN, HN⟩
              case measure => simp [intOf]; omega
          exact AllReadyH.nil
        exact AllReadyH.nil
    · have hki : ¬ (k : Int) < (bs.length : Int) := by omega
      obtain ⟨⟨E, hW, hS, hwk⟩, hwl⟩ := HI.out
      obtain ⟨⟨E', hW', hS', hwk'⟩, hwl'⟩ := HH.out
      have hc1 : cs.length ≤ 1000000 := by have := hS.1; omega
      have hc2 : hs.length ≤ 1000000 := by have := hS'.1; omega
      have HS := Lib.hid hS
      have HS' := Lib.hid hS'
      have HWL := Lib.hid hwl
      have HWL' := Lib.hid hwl'
      clear hS hS' hwl hwl' HI HH
      go_wp2_with fail
      refine (List_any hc1 _ E).mono ?_
      rintro e4 w4 ⟨⟨q4, c4, es4, rfl, hL4, hV4, hS4⟩, hb4⟩
      have hl4 : es4.length = cs.length := hS4.1.symm
      have HB4 := binds_of hL4 hV4.ints (by omega)
      have HS4 := Lib.hid (hS4.symm.trans HS.out.symm)
      rw [← hl4]
      have hbw4 := below_t hbw hb4
      have hW4 := hW.keep hb4
      have E4 := E'.keep hb4
      have hW4' := hW'.keep hb4
      clear hS4 hL4 hV4 hl4 hb4 E E' hW hW'
      go_wp2_with fail
      refine (BSame_yes q4 pw c4 cw es4 ws HS4.out nw HWL.out _ HB4 hW4).mono ?_
      rintro e5 w5 ⟨rfl, hb5⟩
      have hbw5 := below_t hbw4 hb5
      have E5 := E4.keep hb5
      have hW5' := hW4'.keep hb5
      clear HB4 hW4 E4 hW4' hb5
      go_wp2_with fail
      refine (List_any hc2 _ E5).mono ?_
      rintro e6 w6 ⟨⟨q6, c6, es6, rfl, hL6, hV6, hS6⟩, hb6⟩
      have hl6 : es6.length = hs.length := hS6.1.symm
      have HB6 := binds_of hL6 hV6.ints (by omega)
      have HS6 := Lib.hid (hS6.symm.trans HS'.out.symm)
      rw [← hl6]
      have hbw6 := below_t hbw5 hb6
      have hW6' := hW5'.keep hb6
      clear hS6 hL6 hV6 hl6 hb6 E5 hW5'
      go_wp2_with fail
      refine (BSame_yes q6 pm c6 cm es6 ms HS6.out nm HWL'.out _ HB6 hW6').mono ?_
      rintro e7 w7 ⟨rfl, hb7⟩
      have hbw7 := below_t hbw6 hb7
      go_wp2_with fail
      go_ret
      exact ⟨rfl, hbw7⟩

set_option maxRecDepth 100000 in
set_option maxHeartbeats 4000000 in
theorem EnvScripts_law (p : Option Addr) (c : Nat) (bs : List BV) (w : World) (h : Binds w p bs) (hc : bs.length ≤ c) :
    Calls Try.prog 7 #[.slice p bs.length c] w fun e w' => e = .returned (.bool true) ∧ Below w.heap.size w w' := by
  cases hf : fewB bs 300 with
  | false =>
    have HF := Lib.hid hf
    clear hf
    go_enter Try.func7, Try.ntmps7
    go_wp2_with fail
    refine (awake11 _).mono ?_
    rintro e1 w1 ⟨rfl, hb⟩
    go_wp2_with fail
    refine (Few_is p c bs 300 false HF.out _ (h.keep hb)).mono ?_
    rintro e2 w2 ⟨rfl, hb1⟩
    have hb := below_t hb hb1
    clear hb1
    go_wp2_with fail
    refine (awake11 _).mono ?_
    rintro e3 w3 ⟨rfl, hb1⟩
    have hb := below_t hb hb1
    clear hb1
    go_wp2_with fail
    go_ret
    exact ⟨rfl, hb⟩
  | true => exact EnvScripts_main p c bs w h hc hf
end Go.Proofs.Ytolkgjbljdmadaa
