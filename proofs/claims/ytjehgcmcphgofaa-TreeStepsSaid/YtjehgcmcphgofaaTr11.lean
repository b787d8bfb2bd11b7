/- Looking a rule up; the axis of a node; an atom. No condition beyond what each says. -/
import Derived.Test.YtjehgcmcphgofaaTr8
import Derived.Test.YtjehgcmcphgofaaTr10
import Derived.Test.YtjehgcmcphgofaaSlices
namespace Go.Proofs.Ytjehgcmcphgofaa
open Go.RowKit Go.Shelf
set_option linter.unusedVariables false
set_option linter.unusedSimpArgs false

/-- the rule of a kind: its functions, those that may have an axis, its kids; whether there is one -/
def ruleT (k : Int) : List Int × List Int × Int × Bool :=
  if k = 1 then ([0], [], 0, true) else if k = 2 then ([0], [], 0, true) else if k = 3 then ([3, 4, 6], [3], 1, true) else if k = 4 then ([1, 2, 3, 4, 5, 6], [3, 6], 2, true) else ([], [], 0, false)
theorem own_new {w : World} {g : Nat} {xs : List Int} {vs : List Value} (h : Own w g 3 vs) (hv : vs = xs.map (.int .i64)) : New 0 w (some ⟨g, 0, none⟩) 3 (xs.map (.int .i64)) := .inr ⟨g, rfl, Nat.zero_le _, hv ▸ h⟩
theorem i64_dec {xs : List Int} (h : xs.all (fun x => decide (-1000 ≤ x ∧ x ≤ 1000)) = true) : ∀ x ∈ xs, I64 x := fun x hx => by
  have := of_decide_eq_true (List.all_eq_true.1 h x hx)
  unfold I64; omega

theorem rule_zero : (Try.prog.info? 51).map (fun i => i.zero) = some (some (ruleV none 0 none 0 0)) := by kernel_rfl
theorem run_zero (w : World) : (zeroValue 51).run Try.prog w = .ok (ruleV none 0 none 0 0) w := Try.zeroValue51 w

/-- what a look-up hands back -/
structure RuleGot (w : World) (b : Nat) (k : Int) (p : Option Addr) (fs : List Int) (a : Option Addr) (xa : List Int) (kk : Int) (ok : Bool) : Prop where
  run : ∀ z : World, z.heap[b]? = w.heap[b]? → (Instr.lookup 53 (.map (some b)) (.int .i64 k) true).run Try.prog z = .ok (.tuple #[.agg #[.slice p fs.length fs.length, .slice a xa.length xa.length, .int .i64 kk], .bool ok]) z
  rule : ruleT k = (fs, xa, kk, ok)
  fns : New 0 w p 3 (fs.map (.int .i64))
  axes : New 0 w a 3 (xa.map (.int .i64))
  sf : (∀ x ∈ fs, I64 x) ∧ fs.length ≤ 1000000
  sa : (∀ x ∈ xa, I64 x) ∧ xa.length ≤ 1000000
theorem rule_look {w : World} {b p1 p2 p3 a3 p4 a4 : Nat} (h : RulesAt w b p1 p2 p3 a3 p4 a4) (k : Int) : ∃ p fs a xa kk ok, RuleGot w b k p fs a xa kk ok := by
  have hkey : MapKept.IsKey (.int .i64) (.int .i64 k) := by simp [MapKept.IsKey]
  have run : ∀ (z : World) (v : Option (Nat × Value)), z.heap[b]? = w.heap[b]? → Instr.findNow (.int .i64) (.int .i64 k) [⟨.int .i64 1, ruleV (some ⟨p1, 0, none⟩) 1 none 0 0, 0⟩, ⟨.int .i64 2, ruleV (some ⟨p2, 0, none⟩) 1 none 0 0, 1⟩, ⟨.int .i64 3, ruleV (some ⟨p3, 0, none⟩) 3 (some ⟨a3, 0, none⟩) 1 1, 2⟩, ⟨.int .i64 4, ruleV (some ⟨p4, 0, none⟩) 6 (some ⟨a4, 0, none⟩) 2 2, 3⟩] 0 = some v →
      (Instr.lookup 53 (.map (some b)) (.int .i64 k) true).run Try.prog z = .ok (.tuple #[(match v with | some (_, x) => x | none => ruleV none 0 none 0 0), .bool v.isSome]) z := fun z v hz hv => by
    have hm := hz.trans h.map
    have hf := MapKept.run_findKey (w := z) Try.underlying3 hv
    have hc := MapKept.run_checkKey (w := z) Try.underlying3 hkey false 9999
    cases v with
    | none => simp [Instr.lookup, run_underlying Try.underlying53, MapKept.run_getObj_map hm, hc, hf, run_zero, Result.andThen]; rfl
    | some v => obtain ⟨i, x⟩ := v; simp [Instr.lookup, run_underlying Try.underlying53, MapKept.run_getObj_map hm, hc, hf, Result.andThen]
  by_cases h1 : k = 1
  · subst h1
    exact ⟨_, [0], none, [], 0, true, fun z hz => run z (some (0, _)) hz (by rfl), rfl, own_new h.r1 rfl, .inl rfl, ⟨i64_dec (by decide), by decide⟩, ⟨i64_dec (by decide), by decide⟩⟩
  · by_cases h2 : k = 2
    · subst h2
      exact ⟨_, [0], none, [], 0, true, fun z hz => run z (some (1, _)) hz (by rfl), rfl, own_new h.r2 rfl, .inl rfl, ⟨i64_dec (by decide), by decide⟩, ⟨i64_dec (by decide), by decide⟩⟩
    · by_cases h3 : k = 3
      · subst h3
        exact ⟨_, [3, 4, 6], _, [3], 1, true, fun z hz => run z (some (2, _)) hz (by rfl), rfl, own_new h.r3 rfl, own_new h.x3 rfl, ⟨i64_dec (by decide), by decide⟩, ⟨i64_dec (by decide), by decide⟩⟩
      · by_cases h4 : k = 4
        · subst h4
          exact ⟨_, [1, 2, 3, 4, 5, 6], _, [3, 6], 2, true, fun z hz => run z (some (3, _)) hz (by rfl), rfl, own_new h.r4 rfl, own_new h.x4 rfl, ⟨i64_dec (by decide), by decide⟩, ⟨i64_dec (by decide), by decide⟩⟩
        · refine ⟨none, [], none, [], 0, false, fun z hz => run z none hz ?_, ?_, .inl rfl, .inl rfl, ⟨i64_dec (by decide), by decide⟩, ⟨i64_dec (by decide), by decide⟩⟩
          · have e1 : (k == 1) = false := by rw [beq_eq_false_iff_ne]; exact h1
            have e2 : (k == 2) = false := by rw [beq_eq_false_iff_ne]; exact h2
            have e3 : (k == 3) = false := by rw [beq_eq_false_iff_ne]; exact h3
            have e4 : (k == 4) = false := by rw [beq_eq_false_iff_ne]; exact h4
            simp [Instr.findNow, Instr.sameNow, e1, e2, e3, e4]
          · simp [ruleT, h1, h2, h3, h4]

theorem Contains_is (v : Int) (a : Option Addr) (c : Nat) (xs : List Int) (r : Bool) (hr : xs.any (fun x => v == x) = r) (w : World) (h : Ints w a xs) :
    Calls Try.prog 44 #[.slice a xs.length c, .int .i64 v] w fun e w' => e = .returned (.bool r) ∧ w = w' := hr ▸ Contains_any v a c xs w h
/-- whether a node may have its axis -/
def axisT (d : TD) (xa : List Int) : Bool := decide (d.axis = -1) || (axB d && xa.any fun x => d.fn == x)
set_option maxHeartbeats 1000000 in
theorem axis_any (d : TD) (p a : Option Addr) (n c m : Nat) (xa : List Int) (kk : Int) (w : World) (h : Ints w a xa) (r : Bool) (hr : axisT d xa = r) :
    Calls Try.prog 45 #[.agg #[.int .i64 d.kind, .int .i64 d.fn, .int .i64 d.axis, .string d.name, .slice d.np d.nums.length d.nc, .slice d.kp d.n d.kc], .agg #[.slice p n c, .slice a xa.length m, .int .i64 kk]] w fun e w' => e = .returned (.bool r) ∧ Below w.heap.size w w' := by
  have ba := below_alloc w (.cells #[.int .i64 d.kind, .int .i64 d.fn, .int .i64 d.axis, .string d.name, .slice d.np d.nums.length d.nc, .slice d.kp d.n d.kc] 25)
  have bb := below_alloc (w.alloc (.cells #[.int .i64 d.kind, .int .i64 d.fn, .int .i64 d.axis, .string d.name, .slice d.np d.nums.length d.nc, .slice d.kp d.n d.kc] 25)) (.cells #[.slice p n c, .slice a xa.length m, .int .i64 kk] 51)
  have hb := below_t ba bb
  have ha := h.keep hb
  have HR := Lib.hid hr
  clear hr ba bb h
  by_cases h1 : d.axis = -1
  · have e1 : (d.axis == -1) = true := by simp [h1]
    have HR : Hid (r = true) := by rw [Hid, ← HR.out, axisT, decide_eq_true h1]; rfl
    clear h1
    go_enter Try.func45, Try.ntmps45
    go_wp2_with fail
    go_ret
    exact ⟨ret_bool HR.out.symm, hb⟩
  · have e1 : (d.axis == -1) = false := by rw [beq_eq_false_iff_ne]; exact h1
    by_cases h2 : 0 ≤ d.axis
    · have e2 : decide (0 ≤ d.axis) = true := by simpa using h2
      by_cases h3 : d.axis ≤ 15
      · have e3 : decide (d.axis < 16) = true := by simp; omega
        obtain ⟨y, hy⟩ : ∃ y, (xa.any fun x => d.fn == x) = y := ⟨_, rfl⟩
        have HR : Hid (r = y) := by rw [Hid, ← HR.out, axisT, axB, decide_eq_false h1, decide_eq_true h2, decide_eq_true h3, hy]; rfl
        have HY := Lib.hid hy
        clear h1 h2 h3 hy
        go_enter Try.func45, Try.ntmps45
        go_wp2_with fail
        refine (Contains_is d.fn a m xa y HY.out _ ha).mono ?_
        rintro e1 w1 ⟨rfl, rfl⟩
        go_wp2_with fail
        go_ret
        exact ⟨ret_bool HR.out.symm, hb⟩
      · have e3 : decide (d.axis < 16) = false := by simp; omega
        have HR : Hid (r = false) := by rw [Hid, ← HR.out, axisT, axB, decide_eq_false h1, decide_eq_false h3]; simp
        clear h1 h2 h3
        go_enter Try.func45, Try.ntmps45
        go_wp2_with fail
        go_ret
        exact ⟨ret_bool HR.out.symm, hb⟩
    · have e2 : decide (0 ≤ d.axis) = false := by simpa using h2
      have HR : Hid (r = false) := by rw [Hid, ← HR.out, axisT, axB, decide_eq_false h1, decide_eq_false h2]; rfl
      clear h1 h2
      go_enter Try.func45, Try.ntmps45
      go_wp2_with fail
      go_ret
      exact ⟨ret_bool HR.out.symm, hb⟩
theorem atom_any (d : TD) (w : World) (r : Bool) (hr : (decide (d.kind = 1) || decide (d.kind = 2)) = r) : Calls Try.prog 47 #[.agg #[.int .i64 d.kind, .int .i64 d.fn, .int .i64 d.axis, .string d.name, .slice d.np d.nums.length d.nc, .slice d.kp d.n d.kc]] w fun e w' => e = .returned (.bool r) ∧ Below w.heap.size w w' := by
  have hb := below_alloc w (.cells #[.int .i64 d.kind, .int .i64 d.fn, .int .i64 d.axis, .string d.name, .slice d.np d.nums.length d.nc, .slice d.kp d.n d.kc] 25)
  have HR := Lib.hid hr
  clear hr
  by_cases h1 : d.kind = 1
  · have e1 : (d.kind == 1) = true := by simp [h1]
    have HR : Hid (r = true) := by rw [Hid, ← HR.out, decide_eq_true h1]; rfl
    clear h1
    go_enter Try.func47, Try.ntmps47
    go_wp2_with fail
    go_ret
    exact ⟨ret_bool HR.out.symm, hb⟩
  · have e1 : (d.kind == 1) = false := by rw [beq_eq_false_iff_ne]; exact h1
    obtain ⟨y, hy⟩ : ∃ y, (d.kind == 2) = y := ⟨_, rfl⟩
    have HR : Hid (r = y) := by rw [Hid, ← HR.out, decide_eq_false h1, ← hy]; rfl
    clear h1
    go_enter Try.func47, Try.ntmps47
    go_wp2_with fail
    go_ret
    exact ⟨ret_bool HR.out.symm, hb⟩
end Go.Proofs.Ytjehgcmcphgofaa
