/- What lex.Name and its reference return at every text: whether it is a word. No condition. -/
import Derived.Test.YtjehgcmcphgofaaTr0
import Derived.Lib.OthersKept
import Derived.Laws.RangeAny
namespace Go.Proofs.Ytjehgcmcphgofaa
open Go.RowKit Go.Shelf
set_option linter.unusedVariables false
set_option linter.unusedSimpArgs false

/-- a character that can begin a word; a digit; one that can be in a word -/
def letB (x : Int) : Bool := decide ((65 ≤ x ∧ x ≤ 90) ∨ (97 ≤ x ∧ x ≤ 122) ∨ x = 95)
def digB (x : Int) : Bool := decide (48 ≤ x ∧ x ≤ 57)
def innB (x : Int) : Bool := letB x || digB x
theorem innB_high {x : Int} (h : 128 ≤ x) : innB x = false := by
  simp [innB, letB, digB]
  omega
theorem letB_high {x : Int} (h : 128 ≤ x) : letB x = false := by
  simp [letB]
  omega

/-- how many characters of a text, from its beginning on, can be in a word -/
def endN (s : ByteArray) : Nat := (s.data.toList.takeWhile fun c => innB (c.toNat : Int)).length
theorem takeWhile_len {α : Type} (p : α → Bool) (l : List α) : ∀ e, e ≤ l.length → (∀ j (h : j < l.length), j < e → p l[j] = true) → (e = l.length ∨ ∃ h : e < l.length, p l[e] = false) → (l.takeWhile p).length = e := by
  induction l with
  | nil =>
    intro e he _ _
    simp at he
    simp [he]
  | cons a l ih =>
    intro e he h1 h2
    cases e with
    | zero =>
      rcases h2 with h2 | ⟨h, h2⟩
      · simp at h2
      · simp at h2
        simp [List.takeWhile_cons, h2]
    | succ e =>
      have ha : p a = true := h1 0 (by simp) (by omega)
      have := ih e (by simpa using he) (fun j h hj => h1 (j + 1) (by simpa using h) (by omega)) (by
        rcases h2 with h2 | ⟨h, h2⟩
        · exact .inl (by simpa using h2)
        · exact .inr ⟨by simpa using h, by simpa using h2⟩)
      rw [List.takeWhile_cons, if_pos ha, List.length_cons, this]
theorem endN_eq {s : ByteArray} {e : Nat} (he : e ≤ s.size) (h1 : ∀ j (h : j < s.size), j < e → innB ((s[j]'h).toNat : Int) = true) (h2 : e = s.size ∨ ∃ h : e < s.size, innB ((s[e]'h).toNat : Int) = false) : endN s = e :=
  takeWhile_len _ _ e (by simpa using he) (fun j h hj => h1 j (by simpa using h) hj) (by
    rcases h2 with h2 | ⟨h, h2⟩
    · exact .inl (by simpa using h2)
    · exact .inr ⟨by simpa using h, h2⟩)
/-- whether a text begins with a letter; the length of its first word; whether it is a word -/
def letter0 (s : ByteArray) : Bool := if h : 0 < s.size then letB ((s[0]'h).toNat : Int) else false
def wordN (s : ByteArray) : Int := if letter0 s = true then (endN s : Int) else 0
def nameB (s : ByteArray) : Bool := letter0 s && decide (endN s = s.size)

theorem letter_any (x : Int) (w : World) : Calls Try.prog 56 #[.int .i32 x] w fun e w' => e = .returned (.bool (letB x)) ∧ w = w' := by
  go_enter Try.func56, Try.ntmps56
  go_wp2
  all_goals
    go_ret
    refine ⟨ret_bool ?_, rfl⟩
    rw [Bool.eq_iff_iff]
    simp [letB]
    try omega
theorem rletter_any (x : Int) (w : World) : Calls Try.prog 59 #[.int .u8 x] w fun e w' => e = .returned (.bool (letB x)) ∧ w = w' := by
  go_enter Try.func59, Try.ntmps59
  go_wp2
  all_goals
    go_ret
    refine ⟨ret_bool ?_, rfl⟩
    rw [Bool.eq_iff_iff]
    simp [letB]
    try omega
theorem digit_any (x : Int) (w : World) : Calls Try.prog 61 #[.int .i32 x] w fun e w' => e = .returned (.bool (digB x)) ∧ w = w' := by
  go_enter Try.func61, Try.ntmps61
  go_wp2
  all_goals
    go_ret
    refine ⟨ret_bool ?_, rfl⟩
    rw [Bool.eq_iff_iff]
    simp [digB]
    try omega
theorem rdigit_any (x : Int) (w : World) : Calls Try.prog 62 #[.int .u8 x] w fun e w' => e = .returned (.bool (digB x)) ∧ w = w' := by
  go_enter Try.func62, Try.ntmps62
  go_wp2
  all_goals
    go_ret
    refine ⟨ret_bool ?_, rfl⟩
    rw [Bool.eq_iff_iff]
    simp [digB]
    try omega
theorem letter_is (x : Int) (b : Bool) (h : letB x = b) (w : World) : Calls Try.prog 56 #[.int .i32 x] w fun e w' => e = .returned (.bool b) ∧ w = w' := h ▸ letter_any x w
theorem rletter_is (x : Int) (b : Bool) (h : letB x = b) (w : World) : Calls Try.prog 59 #[.int .u8 x] w fun e w' => e = .returned (.bool b) ∧ w = w' := h ▸ rletter_any x w
theorem rdigit_is (x : Int) (b : Bool) (h : digB x = b) (w : World) : Calls Try.prog 62 #[.int .u8 x] w fun e w' => e = .returned (.bool b) ∧ w = w' := h ▸ rdigit_any x w

theorem inner_is (x : Int) (b : Bool) (h : innB x = b) (w : World) : Calls Try.prog 58 #[.int .i32 x] w fun e w' => e = .returned (.bool b) ∧ w = w' := by
  have hd : ∀ c, digB x = c → letB x = false → c = b := fun c h1 h2 => by rw [← h, innB, h1, h2]; rfl
  cases hl : letB x with
  | true =>
    have hb : b = true := by rw [← h, innB, hl]; rfl
    subst hb
    have HL := Lib.hid hl
    clear h hd hl
    go_enter Try.func58, Try.ntmps58
    go_wp2_with fail
    refine (letter_is x true HL.out _).mono ?_
    rintro e w' ⟨rfl, rfl⟩
    go_wp2_with fail
    go_ret
    exact ⟨rfl, rfl⟩
  | false =>
    have hb : digB x = b := by rw [← h, innB, hl]; rfl
    have HL := Lib.hid hl
    have HB := Lib.hid hb
    have HD := Lib.hid (digit_any x)
    rw [hb] at HD
    clear h hd hl hb
    go_enter Try.func58, Try.ntmps58
    go_wp2_with fail
    refine (letter_is x false HL.out _).mono ?_
    rintro e w' ⟨rfl, rfl⟩
    go_wp2_with fail
    refine (HD.out _).mono ?_
    rintro e w' ⟨rfl, rfl⟩
    go_wp2_with fail
    go_ret
    exact ⟨rfl, rfl⟩

set_option maxHeartbeats 2000000 in
theorem span_any (s : ByteArray) (w : World) :
    Calls Try.prog 57 #[.string s, .func (.func 58) #[] #[]] w fun e w' => (∃ t : ByteArray, e = .returned (.string t) ∧ t.size = endN s) ∧ Below w.heap.size w w' := by
  have hec := enters_of Try.func58 (by kernel_rfl) rfl
  go_enter Try.func57, Try.ntmps57
  go_wp2
  go_loopw [] (fun wr => ∃ pos, pos ≤ s.size ∧ wr.heap[w.heap.size]? = some (.stringIter s pos) ∧ Below w.heap.size w wr ∧ Hid (∀ j (h : j < s.size), j < pos → innB ((s[j]'h).toNat : Int) = true)) (fun wr => s.size - wr.iterPos w.heap.size)
  case atStart =>
    refine ⟨0, Nat.zero_le _, ?_, (Below.refl _ w).alloc (Nat.le_refl _) _, fun j h hj => by omega⟩
    exact World.iter_heap w s 0
  case round =>
    obtain ⟨pos, hle, hit, hbw, hI⟩ := hrel
    have hsz : w.heap.size < wr.heap.size := (Array.getElem?_eq_some_iff.1 hit).1
    by_cases hp : pos < s.size
    · by_cases ha : (s[pos]'hp).toNat < 128
      · cases hb : innB ((s[pos]'hp).toNat : Int) with
        | true =>
          have hnx : ∀ ty, (Instr.next (.pointer (some ⟨w.heap.size, 0, none⟩)) true ty).run Try.prog wr = _ := fun ty => Lib.run_next_ascii_at wr w.heap.size s pos ty hit hp ha
          have hit2 := Lib.iterAt_heap wr w.heap.size s pos (pos + 1) hit
          have hbw2 := Lib.below_iterAt hbw (k := w.heap.size) (Nat.le_refl _) s (pos + 1)
          have HI : Hid (∀ j (h : j < s.size), j < pos + 1 → innB ((s[j]'h).toNat : Int) = true) := fun j h hj => by
            by_cases he : j = pos
            · subst he; exact hb
            · exact hI.out j h (by omega)
          obtain ⟨x, hx⟩ : ∃ x : Int, ((s[pos]'hp).toNat : Int) = x := ⟨_, rfl⟩
          obtain ⟨W1, hW1⟩ : ∃ W1, wr.iterAt w.heap.size s (pos + 1) = W1 := ⟨_, rfl⟩
          simp only [hx, hW1] at hnx
          rw [hx] at hb
          rw [hW1] at hit2 hbw2
          have HB := Lib.hid hb
          have hit' := Lib.hid hit
          clear hb hx hW1 hit hbw hsz hI ha
          go_wp2_with fail
          refine (inner_is x true HB.out _).mono ?_
          rintro e w' ⟨rfl, rfl⟩
          go_wp2_with fail
          go_roundw
          case rel => exact ⟨pos + 1, by omega, hit2, hbw2, HI⟩
          case measure =>
            simp only [World.iterPos, hit2, hit'.out]
            omega
        | false =>
          have hnx : ∀ ty, (Instr.next (.pointer (some ⟨w.heap.size, 0, none⟩)) true ty).run Try.prog wr = _ := fun ty => Lib.run_next_ascii_at wr w.heap.size s pos ty hit hp ha
          have hbw2 := Lib.below_iterAt hbw (k := w.heap.size) (Nat.le_refl _) s (pos + 1)
          have HE : Hid (endN s = pos) := endN_eq hle hI.out (.inr ⟨hp, hb⟩)
          obtain ⟨x, hx⟩ : ∃ x : Int, ((s[pos]'hp).toNat : Int) = x := ⟨_, rfl⟩
          obtain ⟨W1, hW1⟩ : ∃ W1, wr.iterAt w.heap.size s (pos + 1) = W1 := ⟨_, rfl⟩
          simp only [hx, hW1] at hnx
          rw [hx] at hb
          rw [hW1] at hbw2
          have HB := Lib.hid hb
          have hp' : (pos : Int) ≤ (s.size : Int) := by omega
          clear hb hx hW1 hit hbw hsz hI ha
          go_wp2_with fail
          refine (inner_is x false HB.out _).mono ?_
          rintro e w' ⟨rfl, rfl⟩
          go_wp2_with fail
          go_ret
          exact ⟨⟨_, rfl, by rw [HE.out]; simp; omega⟩, hbw2⟩
      · have hnx : ∀ ty, (Instr.next (.pointer (some ⟨w.heap.size, 0, none⟩)) true ty).run Try.prog wr = _ := fun ty => Lib.run_next_any_at wr w.heap.size s pos ty hit hp
        have hbw2 := Lib.below_iterAt hbw (k := w.heap.size) (Nat.le_refl _) s (pos + (Utf8.decode s pos).2)
        have HE : Hid (endN s = pos) := endN_eq hle hI.out (.inr ⟨hp, innB_high (by omega)⟩)
        have hh := (decode_high s pos hp (by omega)).1
        obtain ⟨x, hx⟩ : ∃ x : Int, ((Utf8.decode s pos).1 : Int) = x := ⟨_, rfl⟩
        obtain ⟨W1, hW1⟩ : ∃ W1, wr.iterAt w.heap.size s (pos + (Utf8.decode s pos).2) = W1 := ⟨_, rfl⟩
        simp only [hx, hW1] at hnx
        rw [hW1] at hbw2
        have HB := Lib.hid (innB_high (x := x) (by omega))
        have hp' : (pos : Int) ≤ (s.size : Int) := by omega
        clear hx hW1 hit hbw hsz hI ha hh
        go_wp2_with fail
        refine (inner_is x false HB.out _).mono ?_
        rintro e w' ⟨rfl, rfl⟩
        go_wp2_with fail
        go_ret
        exact ⟨⟨_, rfl, by rw [HE.out]; simp; omega⟩, hbw2⟩
    · have hnx : ∀ ty, (Instr.next (.pointer (some ⟨w.heap.size, 0, none⟩)) true ty).run Try.prog wr = _ := fun ty => Lib.run_next_end_at wr w.heap.size s pos ty hit hp
      have HE : Hid (endN s = s.size) := endN_eq (Nat.le_refl _) (fun j h hj => hI.out j h (by omega)) (.inl rfl)
      clear hI hit
      go_wp2_with fail
      go_ret
      exact ⟨⟨_, rfl, HE.out.symm⟩, hbw⟩

theorem letter0_of {s : ByteArray} (hp : 0 < s.size) : letter0 s = letB ((s[0]'hp).toNat : Int) := by unfold letter0; rw [dif_pos hp]

set_option maxHeartbeats 2000000 in
theorem word_any (s : ByteArray) (w : World) :
    Calls Try.prog 53 #[.string s] w fun e w' => (∃ k t n, e = .returned (.tuple #[.agg #[.int .i64 k, .string t, .int .i64 n], .int .i64 (wordN s)])) ∧ Below w.heap.size w w' := by
  have HO := Own.made w w.heap.size [.int .i64 0, .string ⟨#[]⟩, .int .i64 0] 65 rfl
  obtain ⟨W, hW⟩ : ∃ W, w.alloc (.cells #[.int .i64 0, .string ⟨#[]⟩, .int .i64 0] 65) = W := ⟨_, rfl⟩
  have HO : Own W w.heap.size 65 [.int .i64 0, .string ⟨#[]⟩, .int .i64 0] := hW ▸ HO
  have hbW : Below w.heap.size w W := hW ▸ below_alloc _ _
  have hltW : w.heap.size < W.heap.size := HO.lt
  have HW := Lib.hid hW
  clear hW
  obtain ⟨W1, hW1⟩ : ∃ W1, W.iter s 0 = W1 := ⟨_, rfl⟩
  have hbi : Below W.heap.size W W1 := hW1 ▸ below_alloc W (.stringIter s 0)
  have hit : W1.heap[W.heap.size]? = some (.stringIter s 0) := hW1 ▸ World.iter_heap W s 0
  have hWs : W.heap.size = w.heap.size + 1 := by rw [← HW.out]; simp
  rw [hWs] at hit
  have HO := HO.keep hbi HO.lt
  have hb := below_t hbW hbi
  have HW1 := Lib.hid hW1
  have HWs := Lib.hid hWs
  clear hW1 hbi hbW hltW hWs
  have hlt1 := HO.lt
  go_enter Try.func53, Try.ntmps53
  go_wp2
  rw [HW.out, HW1.out]
  go_loopw [] (fun wr => wr = W1) (fun _ => 0)
  case atStart => rfl
  case round =>
    have hwr := hrel
    subst hwr
    by_cases hp : 0 < s.size
    · have hl0 := letter0_of hp
      by_cases ha : (s[0]'hp).toNat < 128
      · have hnx : ∀ ty, (Instr.next (.pointer (some ⟨w.heap.size + 1, 0, none⟩)) true ty).run Try.prog wr = _ := fun ty => Lib.run_next_ascii_at wr (w.heap.size + 1) s 0 ty hit hp ha
        have hbw2 := Lib.below_iterAt (Below.refl (w.heap.size + 1) wr) (k := w.heap.size + 1) (Nat.le_refl _) s 1
        obtain ⟨x, hx⟩ : ∃ x : Int, ((s[0]'hp).toNat : Int) = x := ⟨_, rfl⟩
        obtain ⟨W2, hW2⟩ : ∃ W2, wr.iterAt (w.heap.size + 1) s 1 = W2 := ⟨_, rfl⟩
        simp only [hx, Nat.zero_add, hW2] at hnx
        rw [hx] at hl0
        rw [hW2] at hbw2
        have HO := HO.keep hbw2 (by omega)
        have hb := hb.trans (hbw2.mono (by omega))
        have hlt2 := HO.lt
        cases hl : letB x with
        | true =>
          have HL := Lib.hid hl
          have HN : Hid (wordN s = endN s) := by unfold Hid wordN; rw [hl0, hl]; rfl
          clear hl hl0 hx hW2 hbw2 hit ha
          go_wp2_with fail
          refine (letter_is x true HL.out _).mono ?_
          rintro e w' ⟨rfl, rfl⟩
          go_wp2_with fail
          refine (span_any s _).mono ?_
          rintro e3 w3 ⟨⟨t, rfl, ht⟩, hb3⟩
          have HO := HO.keep hb3 hlt2
          have hb := below_t hb hb3
          have q0 := HO.cell (i := 0) rfl
          have q1 := HO.cell (i := 1) rfl
          have q2 := HO.cell (i := 2) rfl
          have f0 := HO.frozen 0
          have f1 := HO.frozen 1
          have f2 := HO.frozen 2
          have HT := Lib.hid ht
          clear ht hb3 hnx
          go_wp2_with fail
          refine bodyPost_ret (v := .tuple #[.agg #[.int .i64 1, .string t, .int .i64 0], .int .i64 t.size]) (by simp [results, Try.results53, go_sem, q0, q1, q2, f0, f1, f2]) rfl ⟨⟨1, t, 0, ?_⟩, ?_⟩
          · rw [HN.out, HT.out]
          · exact ((hb.setCell (p := ⟨w.heap.size, 0, none⟩) (Nat.le_refl _) _).setCell (p := ⟨w.heap.size, 1, none⟩) (Nat.le_refl _) _).setCell (p := ⟨w.heap.size, 2, none⟩) (Nat.le_refl _) _
        | false =>
          have HL := Lib.hid hl
          have HN : Hid (wordN s = 0) := by unfold Hid wordN; rw [hl0, hl]; rfl
          have q0 := HO.cell (i := 0) rfl
          have q1 := HO.cell (i := 1) rfl
          have q2 := HO.cell (i := 2) rfl
          have f0 := HO.frozen 0
          have f1 := HO.frozen 1
          have f2 := HO.frozen 2
          clear hl hl0 hx hW2 hbw2 hit ha
          go_wp2_with fail
          refine (letter_is x false HL.out _).mono ?_
          rintro e w' ⟨rfl, rfl⟩
          go_wp2_with fail
          refine bodyPost_ret (v := .tuple #[.agg #[.int .i64 0, .string ⟨#[]⟩, .int .i64 0], .int .i64 0]) (by simp [results, Try.results53, go_sem, q0, q1, q2, f0, f1, f2]) rfl ⟨⟨0, ⟨#[]⟩, 0, ?_⟩, ?_⟩
          · rw [HN.out]
          · exact ((hb.setCell (p := ⟨w.heap.size, 0, none⟩) (Nat.le_refl _) _).setCell (p := ⟨w.heap.size, 1, none⟩) (Nat.le_refl _) _).setCell (p := ⟨w.heap.size, 2, none⟩) (Nat.le_refl _) _
      · have hnx : ∀ ty, (Instr.next (.pointer (some ⟨w.heap.size + 1, 0, none⟩)) true ty).run Try.prog wr = _ := fun ty => Lib.run_next_any_at wr (w.heap.size + 1) s 0 ty hit hp
        have hbw2 := Lib.below_iterAt (Below.refl (w.heap.size + 1) wr) (k := w.heap.size + 1) (Nat.le_refl _) s (0 + (Utf8.decode s 0).2)
        have hh := (decode_high s 0 hp (by omega)).1
        obtain ⟨x, hx⟩ : ∃ x : Int, ((Utf8.decode s 0).1 : Int) = x := ⟨_, rfl⟩
        obtain ⟨W2, hW2⟩ : ∃ W2, wr.iterAt (w.heap.size + 1) s (0 + (Utf8.decode s 0).2) = W2 := ⟨_, rfl⟩
        simp only [hx, hW2] at hnx
        rw [hW2] at hbw2
        have HO := HO.keep hbw2 (by omega)
        have hb := hb.trans (hbw2.mono (by omega))
        have hlt2 := HO.lt
        have HL := Lib.hid (letB_high (x := x) (by omega))
        have HN : Hid (wordN s = 0) := by unfold Hid wordN; rw [hl0, letB_high (by omega)]; rfl
        have q0 := HO.cell (i := 0) rfl
        have q1 := HO.cell (i := 1) rfl
        have q2 := HO.cell (i := 2) rfl
        have f0 := HO.frozen 0
        have f1 := HO.frozen 1
        have f2 := HO.frozen 2
        clear hl0 hx hW2 hbw2 hit ha hh
        go_wp2_with fail
        refine (letter_is x false HL.out _).mono ?_
        rintro e w' ⟨rfl, rfl⟩
        go_wp2_with fail
        refine bodyPost_ret (v := .tuple #[.agg #[.int .i64 0, .string ⟨#[]⟩, .int .i64 0], .int .i64 0]) (by simp [results, Try.results53, go_sem, q0, q1, q2, f0, f1, f2]) rfl ⟨⟨0, ⟨#[]⟩, 0, ?_⟩, ?_⟩
        · rw [HN.out]
        · exact ((hb.setCell (p := ⟨w.heap.size, 0, none⟩) (Nat.le_refl _) _).setCell (p := ⟨w.heap.size, 1, none⟩) (Nat.le_refl _) _).setCell (p := ⟨w.heap.size, 2, none⟩) (Nat.le_refl _) _
    · have hnx : ∀ ty, (Instr.next (.pointer (some ⟨w.heap.size + 1, 0, none⟩)) true ty).run Try.prog wr = _ := fun ty => Lib.run_next_end_at wr (w.heap.size + 1) s 0 ty hit hp
      have HN : Hid (wordN s = 0) := by unfold Hid wordN letter0; rw [dif_neg hp]; rfl
      have HE : Hid (endN s = 0) := endN_eq (Nat.zero_le _) (fun j h hj => by omega) (.inl (by omega))
      clear hit
      go_wp2_with fail
      refine (span_any s _).mono ?_
      rintro e3 w3 ⟨⟨t, rfl, ht⟩, hb3⟩
      have HO := HO.keep hb3 hlt1
      have hb := below_t hb hb3
      have q0 := HO.cell (i := 0) rfl
      have q1 := HO.cell (i := 1) rfl
      have q2 := HO.cell (i := 2) rfl
      have f0 := HO.frozen 0
      have f1 := HO.frozen 1
      have f2 := HO.frozen 2
      have HT := Lib.hid ht
      clear ht hb3 hnx
      go_wp2_with fail
      refine bodyPost_ret (v := .tuple #[.agg #[.int .i64 1, .string t, .int .i64 0], .int .i64 t.size]) (by simp [results, Try.results53, go_sem, q0, q1, q2, f0, f1, f2]) rfl ⟨⟨1, t, 0, ?_⟩, ?_⟩
      · rw [HN.out, HT.out, HE.out]; rfl
      · exact ((hb.setCell (p := ⟨w.heap.size, 0, none⟩) (Nat.le_refl _) _).setCell (p := ⟨w.heap.size, 1, none⟩) (Nat.le_refl _) _).setCell (p := ⟨w.heap.size, 2, none⟩) (Nat.le_refl _) _
end Go.Proofs.Ytjehgcmcphgofaa
