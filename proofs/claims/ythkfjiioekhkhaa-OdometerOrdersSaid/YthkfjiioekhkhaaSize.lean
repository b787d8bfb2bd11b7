/- What the functions of package size and of its reference return, at all numbers and lists (a list: the numbers that its slice reads as). -/
import Derived.Test.YthkfjiioekhkhaaSlices
import Derived.Test.YthkfjiioekhkhaaSizePlain
namespace Go.Proofs.Ythkfjiioekhkhaa
open Go.RowKit Go.Shelf

theorem Mul_any (a b l : Int) (w : World) (hb : I64 b) (hl : I64 l) :
    Calls Try.prog 29 #[.int .i64 a, .int .i64 b, .int .i64 l] w fun e w' => e = .returned (.tuple #[.int .i64 (mulS a b l).1, .bool (mulS a b l).2]) ∧ w = w' := by
  obtain ⟨hl1, hl2⟩ := hl
  obtain ⟨hb1, hb2⟩ := hb
  by_cases h1 : a < 0
  · have e : mulS a b l = (0, false) := by simp [mulS, h1]
    rw [e]
    clear e
    go_enter Try.func29, Try.ntmps29
    go_wp2
    go_ret2
    exact ⟨rfl, rfl⟩
  by_cases h2 : b < 0
  · have e : mulS a b l = (0, false) := by simp [mulS, h2]
    rw [e]
    clear e
    go_enter Try.func29, Try.ntmps29
    go_wp2
    go_ret2
    exact ⟨rfl, rfl⟩
  by_cases h3 : l < a
  · have e : mulS a b l = (0, false) := by simp [mulS, h3]
    rw [e]
    clear e
    go_enter Try.func29, Try.ntmps29
    go_wp2
    go_ret2
    exact ⟨rfl, rfl⟩
  by_cases h4 : l < b
  · have e : mulS a b l = (0, false) := by simp [mulS, h4]
    rw [e]
    clear e
    go_enter Try.func29, Try.ntmps29
    go_wp2
    go_ret2
    exact ⟨rfl, rfl⟩
  by_cases h5 : 0 < b
  · by_cases h6 : l / b < a
    · have e : mulS a b l = (0, false) := by simp [mulS, h5, h6]
      rw [e]
      clear e
      go_enter Try.func29, Try.ntmps29
      go_wp2
      go_ret2
      exact ⟨rfl, rfl⟩
    · have e : mulS a b l = (a * b, true) := by simp [mulS, h1, h2, h3, h4, h6]
      have h7 := mul_le h5 (Int.not_lt.1 h6)
      have h8 : 0 ≤ a * b := Int.mul_nonneg (by omega) (by omega)
      rw [e]
      clear e
      go_enter Try.func29, Try.ntmps29
      go_wp2
      go_ret2
      exact ⟨rfl, rfl⟩
  · obtain rfl : b = 0 := by omega
    have e : mulS a 0 l = (0, true) := by simp [mulS, h1, h3, h4]
    rw [e]
    clear e
    go_enter Try.func29, Try.ntmps29
    go_wp2
    go_ret2
    exact ⟨rfl, rfl⟩

theorem check1_any (x : Int) (w : World) : Calls Try.prog 51 #[.int .i64 x] w fun e w' => e = .returned (.bool (neg x)) ∧ w = w' := by
  go_enter Try.func51, Try.ntmps51
  go_wp2
  go_ret
  exact ⟨rfl, rfl⟩

theorem check2_any (x : Int) (w : World) : Calls Try.prog 52 #[.int .i64 x] w fun e w' => e = .returned (.bool (big x)) ∧ w = w' := by
  go_enter Try.func52, Try.ntmps52
  go_wp2
  go_ret
  exact ⟨rfl, rfl⟩

theorem check_any (a : Option Addr) (c : Nat) (xs : List Int) (w : World) (h : Ints w a xs) :
    Calls Try.prog 44 #[.slice a xs.length c] w fun e w' => e = .returned (.int .i64 (checkS xs)) ∧ w = w' := by
  have H1 := Lib.hid fun w' hw' => ContainsFunc_any 51 neg (enters_of Try.func51 (by kernel_rfl) rfl) check1_any a c xs w' hw'
  have H2 := Lib.hid fun w' hw' => ContainsFunc_any 52 big (enters_of Try.func52 (by kernel_rfl) rfl) check2_any a c xs w' hw'
  cases h1 : xs.any neg with
  | true =>
    have e : checkS xs = 6 := by simp [checkS, h1]
    rw [e]
    clear e
    go_enter Try.func44, Try.ntmps44
    go_wp2_with fail
    refine (H1.out _ h).mono ?_
    rintro e w' ⟨rfl, rfl⟩
    go_wp2_with fail
    go_ret
    exact ⟨rfl, rfl⟩
  | false =>
    cases h2 : xs.any big with
    | true =>
      have e : checkS xs = 7 := by simp [checkS, h1, h2]
      rw [e]
      clear e
      go_enter Try.func44, Try.ntmps44
      go_wp2_with fail
      refine (H1.out _ h).mono ?_
      rintro e w' ⟨rfl, rfl⟩
      go_wp2_with fail
      refine (H2.out _ h).mono ?_
      rintro e w' ⟨rfl, rfl⟩
      go_wp2_with fail
      go_ret
      exact ⟨rfl, rfl⟩
    | false =>
      have e : checkS xs = 0 := by simp [checkS, h1, h2]
      rw [e]
      clear e
      go_enter Try.func44, Try.ntmps44
      go_wp2_with fail
      refine (H1.out _ h).mono ?_
      rintro e w' ⟨rfl, rfl⟩
      go_wp2_with fail
      refine (H2.out _ h).mono ?_
      rintro e w' ⟨rfl, rfl⟩
      go_wp2_with fail
      go_ret
      exact ⟨rfl, rfl⟩

theorem fold_any (g : Nat) (F : Int → Int → Int × Bool) (I : Int → Prop) (eg : ∀ args w, (callFunc g args).run Try.prog w = .ok (.enter g args) w)
    (a : Option Addr) (c : Nat) (xs : List Int) (first : Int) (w : World) (h : Ints w a xs)
    (hF : ∀ acc x w, I acc → x ∈ xs → Calls Try.prog g #[.int .i64 acc, .int .i64 x] w fun e w' => e = .returned (.tuple #[.int .i64 (F acc x).1, .bool (F acc x).2]) ∧ w = w')
    (h0 : I first) (hI : ∀ acc x, I acc → x ∈ xs → (F acc x).2 = true → I (F acc x).1) :
    Calls Try.prog 54 #[.slice a xs.length c, .int .i64 first, .func (.func g) #[] #[]] w fun e w' => e = .returned (.tuple #[.int .i64 (foldS F xs first).1, .bool (foldS F xs first).2]) ∧ w = w' := by
  have hn := h.small
  have HF := Lib.hid hF
  have HI := Lib.hid hI
  have H0 := Lib.hid h0
  clear hF hI h0
  go_enter Try.func54, Try.ntmps54
  go_wp2
  go_loop [8, 9, 15] (fun acc ok i => ∃ (k : Nat) (q : Int), k ≤ xs.length ∧ i = .int .i64 k ∧ ok = .bool true ∧ acc = .int .i64 q ∧ Hid (I q ∧ foldS F xs first = foldS F (xs.drop k) q)) (fun _ _ i => xs.length - (intOf i).toNat)
  case atStart => exact ⟨0, first, Nat.zero_le _, rfl, rfl, rfl, H0.out, by simp⟩
  case round =>
    obtain ⟨k, q, hk, rfl, rfl, rfl, hI⟩ := hrel
    by_cases hlt : k < xs.length
    · obtain ⟨b, off, rfl, -, hc⟩ := h.at hlt
      have hm := Lib.hid (nth_mem hlt)
      cases hpx : (F q (nth xs k)).2 with
      | true =>
        have Hi := Lib.hid (hI.out.2.trans (foldS_yes hlt hpx))
        have Hj := Lib.hid (HI.out _ _ hI.out.1 hm.out hpx)
        go_wp2_with fail
        refine (HF.out _ _ _ hI.out.1 hm.out).mono ?_
        rintro e w' ⟨rfl, rfl⟩
        go_wp2_with fail
        go_round
        case rel => exact ⟨k + 1, _, by omega, by go_num, rfl, rfl, Hj.out, Hi.out⟩
        case measure => simp [intOf]; omega
      | false =>
        have Hi := Lib.hid (hI.out.2.trans (foldS_no hlt hpx))
        go_wp2_with fail
        refine (HF.out _ _ _ hI.out.1 hm.out).mono ?_
        rintro e w' ⟨rfl, rfl⟩
        go_wp2_with fail
        go_ret2
        exact ⟨ret_intb (by rw [Hi.out]) (by rw [Hi.out]), rfl⟩
    · go_wp2
      go_ret2
      have e : foldS F xs first = (q, true) := by rw [hI.out.2, List.drop_eq_nil_of_le (by omega)]; rfl
      exact ⟨ret_intb (by rw [e]) (by rw [e]), rfl⟩

theorem combined_any (g : Nat) (F : Int → Int → Int × Bool) (I : Int → Prop) (eg : ∀ args w, (callFunc g args).run Try.prog w = .ok (.enter g args) w)
    (a : Option Addr) (c : Nat) (xs : List Int) (first : Int) (w : World) (h : Ints w a xs)
    (hF : ∀ acc x w, I acc → 0 ≤ x ∧ x ≤ 65536 → Calls Try.prog g #[.int .i64 acc, .int .i64 x] w fun e w' => e = .returned (.tuple #[.int .i64 (F acc x).1, .bool (F acc x).2]) ∧ w = w')
    (h0 : I first) (hI : ∀ acc x, I acc → 0 ≤ x ∧ x ≤ 65536 → (F acc x).2 = true → I (F acc x).1) :
    Calls Try.prog 46 #[.slice a xs.length c, .int .i64 first, .func (.func g) #[] #[]] w fun e w' => e = .returned (.tuple #[.int .i64 (combS F first xs).1, .int .i64 (combS F first xs).2]) ∧ w = w' := by
  rcases checkS_cases xs with hc | hc | hc
  · have e : combS F first xs = (0, 6) := by simp [combS, hc]
    rw [e]
    clear e hF hI h0 eg
    go_enter Try.func46, Try.ntmps46
    go_wp2_with fail
    refine (check_any _ _ _ _ h).mono ?_
    rintro e w' ⟨rfl, rfl⟩
    go_wp2_with fail
    go_ret2
    exact ⟨rfl, rfl⟩
  · have e : combS F first xs = (0, 7) := by simp [combS, hc]
    rw [e]
    clear e hF hI h0 eg
    go_enter Try.func46, Try.ntmps46
    go_wp2_with fail
    refine (check_any _ _ _ _ h).mono ?_
    rintro e w' ⟨rfl, rfl⟩
    go_wp2_with fail
    go_ret2
    exact ⟨rfl, rfl⟩
  · have hd := checkS_ok hc
    have H := Lib.hid fun w' hw' => fold_any g F I eg a c xs first w' hw' (fun acc x w hi hx => hF acc x w hi (hd x hx)) h0 (fun acc x hi hx => hI acc x hi (hd x hx))
    cases hf : (foldS F xs first).2 with
    | true =>
      have e : combS F first xs = ((foldS F xs first).1, 0) := by simp [combS, hc, hf]
      rw [e]
      clear e hF hI h0 eg hd
      go_enter Try.func46, Try.ntmps46
      go_wp2_with fail
      refine (check_any _ _ _ _ h).mono ?_
      rintro e w' ⟨rfl, rfl⟩
      go_wp2_with fail
      refine (H.out _ h).mono ?_
      rintro e w' ⟨rfl, rfl⟩
      go_wp2_with fail
      go_ret2
      exact ⟨rfl, rfl⟩
    | false =>
      have e : combS F first xs = (0, 7) := by simp [combS, hc, hf]
      rw [e]
      clear e hF hI h0 eg hd
      go_enter Try.func46, Try.ntmps46
      go_wp2_with fail
      refine (check_any _ _ _ _ h).mono ?_
      rintro e w' ⟨rfl, rfl⟩
      go_wp2_with fail
      refine (H.out _ h).mono ?_
      rintro e w' ⟨rfl, rfl⟩
      go_wp2_with fail
      go_ret2
      exact ⟨rfl, rfl⟩

theorem Product1_any (a b : Int) (w : World) (hb : 0 ≤ b ∧ b ≤ 65536) :
    Calls Try.prog 47 #[.int .i64 a, .int .i64 b] w fun e w' => e = .returned (.tuple #[.int .i64 (mulF a b).1, .bool (mulF a b).2]) ∧ w = w' := by
  go_enter Try.func47, Try.ntmps47
  go_wp2_with fail
  refine (Mul_any _ _ _ _ ⟨by omega, by omega⟩ ⟨by omega, by omega⟩).mono ?_
  rintro e w' ⟨rfl, rfl⟩
  go_wp2_with fail
  go_ret2
  exact ⟨rfl, rfl⟩

theorem Product_any (a : Option Addr) (c : Nat) (xs : List Int) (w : World) (h : Ints w a xs) :
    Calls Try.prog 25 #[.slice a xs.length c] w fun e w' => e = .returned (.tuple #[.int .i64 (prodR xs).1, .int .i64 (prodR xs).2]) ∧ w = w' := by
  have H := Lib.hid fun w' hw' => combined_any 47 mulF (fun _ => True) (enters_of Try.func47 (by kernel_rfl) rfl) a c xs 1 w' hw' (fun acc x w _ hx => Product1_any acc x w hx) trivial (fun _ _ _ _ _ => trivial)
  rw [← productS_eq]
  rcases checkS_cases xs with hc | hc | hc
  · have e : productS xs = combS mulF 1 xs := by simp [productS, hc]
    rw [e]
    clear e
    go_enter Try.func25, Try.ntmps25
    go_wp2_with fail
    refine (check_any _ _ _ _ h).mono ?_
    rintro e w' ⟨rfl, rfl⟩
    go_wp2_with fail
    refine (H.out _ h).mono ?_
    rintro e w' ⟨rfl, rfl⟩
    go_wp2_with fail
    go_ret2
    exact ⟨rfl, rfl⟩
  · have e : productS xs = combS mulF 1 xs := by simp [productS, hc]
    rw [e]
    clear e
    go_enter Try.func25, Try.ntmps25
    go_wp2_with fail
    refine (check_any _ _ _ _ h).mono ?_
    rintro e w' ⟨rfl, rfl⟩
    go_wp2_with fail
    refine (H.out _ h).mono ?_
    rintro e w' ⟨rfl, rfl⟩
    go_wp2_with fail
    go_ret2
    exact ⟨rfl, rfl⟩
  · have H2 := Lib.hid fun w' hw' => Contains_any 0 a c xs w' hw'
    cases hz : xs.any (fun x => 0 == x) with
    | true =>
      have e : productS xs = (0, 0) := by unfold productS; rw [if_pos ⟨hc, hz⟩]
      rw [e]
      rw [hz] at H2
      clear e H hz
      go_enter Try.func25, Try.ntmps25
      go_wp2_with fail
      refine (check_any _ _ _ _ h).mono ?_
      rintro e w' ⟨rfl, rfl⟩
      go_wp2_with fail
      refine (H2.out _ h).mono ?_
      rintro e w' ⟨rfl, rfl⟩
      go_wp2_with fail
      go_ret2
      exact ⟨rfl, rfl⟩
    | false =>
      have e : productS xs = combS mulF 1 xs := by unfold productS; rw [if_neg (fun h => by rw [hz] at h; simp at h)]
      rw [e]
      rw [hz] at H2
      clear e hz
      go_enter Try.func25, Try.ntmps25
      go_wp2_with fail
      refine (check_any _ _ _ _ h).mono ?_
      rintro e w' ⟨rfl, rfl⟩
      go_wp2_with fail
      refine (H2.out _ h).mono ?_
      rintro e w' ⟨rfl, rfl⟩
      go_wp2_with fail
      refine (H.out _ h).mono ?_
      rintro e w' ⟨rfl, rfl⟩
      go_wp2_with fail
      go_ret2
      exact ⟨rfl, rfl⟩
end Go.Proofs.Ythkfjiioekhkhaa
