/- Lists of texts: whether a text is in one. No condition beyond what each says. -/
import Derived.Test.YtjehgcmcphgofaaTr20
namespace Go.Proofs.Ytjehgcmcphgofaa
open Go.RowKit Go.Shelf
set_option linter.unusedVariables false
set_option linter.unusedSimpArgs false

/-- a slice reads as a list of texts -/
structure Texts (w : World) (p : Option Addr) (ns : List ByteArray) : Prop where
  cells : Cells w p (ns.map .string)
  small : ns.length ≤ 9223372036854775807
def tnth (ns : List ByteArray) (k : Nat) : ByteArray := ns.getD k .empty
def hasN (ns : List ByteArray) (s : ByteArray) : Bool := ns.any fun x => decide (x = s)
theorem Texts.keep {w w' : World} {p : Option Addr} {ns : List ByteArray} (h : Texts w p ns) (hb : Below w.heap.size w w') : Texts w' p ns := ⟨h.cells.keep hb, h.small⟩
theorem Texts.nil (w : World) (p : Option Addr) : Texts w p [] := ⟨.inl rfl, by simp⟩
theorem Texts.at {w : World} {p : Option Addr} {ns : List ByteArray} (h : Texts w p ns) {k : Nat} (hk : k < ns.length) :
    ∃ b off, p = some ⟨b, off, none⟩ ∧ b < w.heap.size ∧ w.cell? ⟨b, off + k, none⟩ = some (.string (tnth ns k)) := by
  rcases h.cells with h | ⟨b, off, hp, hb, hc⟩
  · have : ns = [] := by simpa using h
    subst this
    simp at hk
  · refine ⟨b, off, hp, hb, hc k _ ?_⟩
    simp [tnth, hk]
theorem take_tnth {ns : List ByteArray} {k : Nat} (hk : k < ns.length) : ns.take (k + 1) = ns.take k ++ [tnth ns k] := by
  rw [List.take_add_one]
  simp [tnth, hk]
theorem tnth_mem {ns : List ByteArray} {k : Nat} (hk : k < ns.length) : tnth ns k ∈ ns := by simp [tnth, hk]
theorem hasN_hit {ns : List ByteArray} {s : ByteArray} {k : Nat} (hk : k < ns.length) (h : tnth ns k = s) : hasN ns s = true := by
  unfold hasN
  rw [List.any_eq_true]
  exact ⟨_, tnth_mem hk, by simpa using h⟩
theorem hasN_next {ns : List ByteArray} {s : ByteArray} {k : Nat} (hk : k < ns.length) (h0 : hasN (ns.take k) s = false) (h : tnth ns k ≠ s) : hasN (ns.take (k + 1)) s = false := by
  rw [take_tnth hk]
  unfold hasN at h0 ⊢
  rw [List.any_append, h0]
  simpa using h
theorem hasN_all {ns : List ByteArray} {s : ByteArray} {k : Nat} (hk : ns.length ≤ k) (h0 : hasN (ns.take k) s = false) : hasN ns s = false := by
  rwa [List.take_of_length_le hk] at h0

theorem IndexT_any (s : ByteArray) (a : Option Addr) (c : Nat) (ns : List ByteArray) (w : World) (h : Texts w a ns) :
    Calls Try.prog 50 #[.slice a ns.length c, .string s] w fun e w' => (∃ y : Int, e = .returned (.int .i64 y) ∧ decide (0 ≤ y) = hasN ns s) ∧ w = w' := by
  have hn := h.small
  go_enter Try.func50, Try.ntmps50
  go_wp2
  go_loop [8] (fun i => ∃ k : Nat, k ≤ ns.length ∧ i = .int .i64 k ∧ Hid (hasN (ns.take k) s = false)) (fun i => ns.length - (intOf i).toNat)
  case atStart => exact ⟨0, Nat.zero_le _, rfl, by simp [hasN, Hid]⟩
  case round =>
    obtain ⟨k, hk, rfl, Hno⟩ := hrel
    by_cases hlt : k < ns.length
    · obtain ⟨b, off, rfl, -, hc⟩ := h.at hlt
      by_cases hx : tnth ns k = s
      · have e := name_eq hx.symm
        have Hi : Hid (decide (0 ≤ (k : Int)) = hasN ns s) := by rw [Hid, hasN_hit hlt hx]; simp
        clear hx
        go_wp2
        go_ret
        exact ⟨⟨_, rfl, Hi.out⟩, rfl⟩
      · have e := name_ne (fun h => hx h.symm : ¬ s = tnth ns k)
        have Hi := Lib.hid (hasN_next hlt Hno.out hx)
        clear hx
        go_wp2
        go_round
        case rel => exact ⟨k + 1, by omega, by go_num, Hi.out⟩
        case measure => simp [intOf]; omega
    · have Hi : Hid (decide (0 ≤ (-1 : Int)) = hasN ns s) := by rw [Hid, hasN_all (by omega) Hno.out]; rfl
      go_wp2
      go_ret
      exact ⟨⟨_, rfl, Hi.out⟩, rfl⟩
theorem ContainsT_any (s : ByteArray) (a : Option Addr) (c : Nat) (ns : List ByteArray) (n : Nat) (hn : ns.length = n) (r : Bool) (hr : hasN ns s = r) (w : World) (h : Texts w a ns) :
    Calls Try.prog 37 #[.slice a n c, .string s] w fun e w' => e = .returned (.bool r) ∧ w = w' := by
  subst hn hr
  go_enter Try.func37, Try.ntmps37
  go_wp2_with fail
  refine (IndexT_any s a c ns _ h).mono ?_
  rintro e w' ⟨⟨y, rfl, hy⟩, rfl⟩
  have Hi := Lib.hid hy
  clear hy
  go_wp2_with fail
  go_ret
  exact ⟨ret_bool Hi.out, rfl⟩
theorem In_any (s : ByteArray) (a : Option Addr) (c : Nat) (ns : List ByteArray) (n : Nat) (hn : ns.length = n) (r : Bool) (hr : hasN ns s = r) (w : World) (h : Texts w a ns) :
    Calls Try.prog 38 #[.string s, .slice a n c] w fun e w' => e = .returned (.bool r) ∧ w = w' := by
  subst hn hr
  have hn := h.small
  go_enter Try.func38, Try.ntmps38
  go_wp2
  go_loop [5] (fun i => ∃ k : Nat, k ≤ ns.length ∧ i = .int .i64 k ∧ Hid (hasN (ns.take k) s = false)) (fun i => ns.length - (intOf i).toNat)
  case atStart => exact ⟨0, Nat.zero_le _, rfl, by simp [hasN, Hid]⟩
  case round =>
    obtain ⟨k, hk, rfl, Hno⟩ := hrel
    by_cases hlt : k < ns.length
    · obtain ⟨b, off, rfl, -, hc⟩ := h.at hlt
      by_cases hx : tnth ns k = s
      · have e := name_eq hx
        have Hi : Hid (true = hasN ns s) := by rw [Hid, hasN_hit hlt hx]
        clear hx
        go_wp2
        go_ret
        exact ⟨ret_bool Hi.out, rfl⟩
      · have e := name_ne hx
        have Hi := Lib.hid (hasN_next hlt Hno.out hx)
        clear hx
        go_wp2
        go_round
        case rel => exact ⟨k + 1, by omega, by go_num, Hi.out⟩
        case measure => simp [intOf]; omega
    · have Hi : Hid (false = hasN ns s) := by rw [Hid, hasN_all (by omega) Hno.out]
      go_wp2
      go_ret
      exact ⟨ret_bool Hi.out, rfl⟩
end Go.Proofs.Ytjehgcmcphgofaa
