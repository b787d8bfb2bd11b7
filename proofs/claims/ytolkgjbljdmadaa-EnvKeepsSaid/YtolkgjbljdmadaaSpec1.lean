/- slices.IndexFunc, ContainsFunc, Clone at []int64; what a call that writes to blocks named leaves. No condition beyond what each says. -/
import Derived.Test.YtolkgjbljdmadaaHeld
import Derived.Test.YtolkgjbljdmadaaSize2
import Derived.Test.YtolkgjbljdmadaaSpecPlain
namespace Go.Proofs.Ytolkgjbljdmadaa
open Go.RowKit Go.Shelf
set_option linter.unusedVariables false

/-- new blocks, and writes to blocks in S alone -/
structure Chg (S : Nat → Prop) (w w' : World) : Prop where
  os : w'.os = w.os
  tape : w'.tape = w.tape
  output : w'.output = w.output
  size : w.heap.size ≤ w'.heap.size
  block : ∀ k, k < w.heap.size → ¬ S k → w'.heap[k]? = w.heap[k]?

theorem Chg.refl (S : Nat → Prop) (w : World) : Chg S w w := ⟨rfl, rfl, rfl, Nat.le_refl _, fun _ _ _ => rfl⟩
theorem Chg.trans {S : Nat → Prop} {a b c : World} (h : Chg S a b) (k : Chg S b c) : Chg S a c :=
  ⟨k.os.trans h.os, k.tape.trans h.tape, k.output.trans h.output, Nat.le_trans h.size k.size, fun i hi hn => (k.block i (Nat.lt_of_lt_of_le hi h.size) hn).trans (h.block i hi hn)⟩
theorem Chg.mono {S S' : Nat → Prop} {a b : World} (h : Chg S a b) (hs : ∀ k, S k → S' k) : Chg S' a b := ⟨h.os, h.tape, h.output, h.size, fun k hk hn => h.block k hk fun hs' => hn (hs k hs')⟩
theorem Chg.of_below {S : Nat → Prop} {a b : World} (h : Below a.heap.size a b) : Chg S a b := ⟨h.os, h.tape, h.output, h.size, fun k hk _ => h.block k hk⟩
theorem Chg.below {S : Nat → Prop} {a b : World} {B : Nat} (h : Chg S a b) (hB : B ≤ a.heap.size) (hs : ∀ k, S k → B ≤ k) : Below B a b :=
  ⟨h.os, h.tape, h.output, h.size, fun k hk => h.block k (by omega) fun hs' => by have := hs k hs'; omega⟩
theorem Chg.cell {S : Nat → Prop} {a b : World} (h : Chg S a b) {p : Addr} (hp : p.block < a.heap.size) (hs : ¬ S p.block) : b.cell? p = a.cell? p := World.cell?_of_block (w := a) (h.block p.block hp hs)
theorem Chg.frozen {S : Nat → Prop} {a b : World} (h : Chg S a b) {p : Addr} (hp : p.block < a.heap.size) (hs : ¬ S p.block) : b.frozen? p = a.frozen? p := World.frozen?_of_block (w := a) (h.block p.block hp hs)
theorem Chg.set {S : Nat → Prop} {a b : World} (h : Chg S a b) {p : Addr} (hs : S p.block) (v : Value) : Chg S a (b.setCell p v) :=
  ⟨h.os, h.tape, h.output, by simpa [World.setCell] using h.size, fun k hk hn => (Below.heap_setCell b p v k (fun e => hn (e ▸ hs))).trans (h.block k hk hn)⟩
theorem Chg.drewN {S : Nat → Prop} {a b : World} (h : Chg S a b) (n : Nat) : Chg S a (b.drewN n) := ⟨h.os, h.tape, h.output, h.size, h.block⟩
theorem Own.chg {S : Nat → Prop} {a b : World} {g : Nat} {e : TypeId} {vs : List Value} (h : Own a g e vs) (hc : Chg S a b) (hs : ¬ S g) : Own b g e vs := by
  obtain ⟨r, h'⟩ := h
  exact ⟨r, (hc.block g (Array.getElem?_eq_some_iff.1 h').1 hs).trans h'⟩
theorem Cells.chg {S : Nat → Prop} {a b : World} {p : Option Addr} {vs : List Value} (h : Cells a p vs) (hc : Chg S a b) (hs : ∀ x y, p = some ⟨x, y, none⟩ → ¬ S x) : Cells b p vs := by
  rcases h with h | ⟨b', off, hp, hlt, hcc⟩
  · exact .inl h
  · exact .inr ⟨b', off, hp, Nat.lt_of_lt_of_le hlt hc.size, fun i u hu => (hc.cell (p := ⟨b', off + i, none⟩) hlt (hs _ _ hp)).trans (hcc i u hu)⟩
theorem Ints.chg {S : Nat → Prop} {a b : World} {p : Option Addr} {xs : List Int} (h : Ints a p xs) (hc : Chg S a b) (hs : ∀ x y, p = some ⟨x, y, none⟩ → ¬ S x) : Ints b p xs := ⟨h.cells.chg hc hs, h.i64, h.small⟩

theorem Ints.chg' {S : Nat → Prop} {a b : World} {p : Option Addr} {xs : List Int} (h : Ints a p xs) (hc : Chg S a b) (hs : xs = [] ∨ ∀ x y, p = some ⟨x, y, none⟩ → ¬ S x) : Ints b p xs := by
  rcases hs with rfl | hs
  · exact ⟨.inl rfl, h.i64, h.small⟩
  · exact h.chg hc hs

theorem Chg.from {S S' : Nat → Prop} {w a b : World} (hb : Below w.heap.size w a) (h : Chg S a b) (hs : ∀ k, k < w.heap.size → S k → S' k) : Chg S' w b :=
  ⟨h.os.trans hb.os, h.tape.trans hb.tape, h.output.trans hb.output, Nat.le_trans hb.size h.size, fun k hk hn => (h.block k (Nat.lt_of_lt_of_le hk hb.size) fun h' => hn (hs k hk h')).trans (hb.block k hk)⟩

/-- 'append(own, ys...)' at []int64 -/
theorem append_i64s {w : World} {ops : Array Oper} {rest : List Oper} {o : Oper} {a : Act} {Q : Exit → Act → World → Prop} (hgd : o.guard = none) (s x : Operand)
    (ho : o.op = .call { callee := .builtin .append, args := #[s, x], argTypes := #[22, 22] })
    (base : Nat) (v : Value) (n : Nat) (xs : List Value) (hs : a.eval s = v) (hown : w.ownsRow base 2 1 v n xs)
    (p : Option Addr) (c : Nat) (ys : List Int) (hx : a.eval x = .slice p ys.length c) (hsrc : Cells w p (ys.map (.int .i64)))
    (hbig : n + ys.length ≤ 1099511627776) (hbase : base ≤ w.heap.size)
    (h : ∀ v' w', w'.ownsRow base 2 1 v' (n + ys.length) (xs ++ ys.map (.int .i64)) → w.grownBy w' v.ownBlock → wpList Try.prog ops Q rest (a.put o.dst v') w') : wpList Try.prog ops Q (o :: rest) a w :=
  wpList_append_src hgd s x 22 ho base 2 (.int .i64 0) 1 8 Try.underlying22 info_i64 rfl (by decide) v n xs hs hown p ys.length c _ hx (by simp) hsrc int_cells hbig (by omega) hbase h

theorem IndexFunc64_any (g : Nat) (p : Int → Bool) (eg : ∀ args w, (callFunc g args).run Try.prog w = .ok (.enter g args) w)
    (hp : ∀ x w, Calls Try.prog g #[.int .i64 x] w fun e w' => e = .returned (.bool (p x)) ∧ w = w')
    (a : Option Addr) (c : Nat) (xs : List Int) (w : World) (h : Ints w a xs) :
    Calls Try.prog 63 #[.slice a xs.length c, .func (.func g) #[] #[]] w fun e w' => e = .returned (.int .i64 (idx p xs)) ∧ w = w' := by
  have hn := h.small
  have Hp := Lib.hid hp
  clear hp
  go_enter Try.func63, Try.ntmps63
  go_wp2
  go_loop [8] (fun i => ∃ k : Nat, k ≤ xs.length ∧ i = .int .i64 k ∧ (xs.take k).any p = false) (fun i => xs.length - (intOf i).toNat)
  case atStart => exact ⟨0, Nat.zero_le _, rfl, by simp⟩
  case round =>
    obtain ⟨k, hk, rfl, hno⟩ := hrel
    have Hno := Lib.hid hno
    clear hno
    by_cases hlt : k < xs.length
    · obtain ⟨b, off, rfl, -, hc⟩ := h.at hlt
      cases hpx : p (nth xs k) with
      | true =>
        have Hi := Lib.hid (idx_hit hlt Hno.out hpx)
        go_wp2_with fail
        refine (Hp.out _ _).mono ?_
        rintro e w' ⟨rfl, rfl⟩
        go_wp2_with fail
        go_ret
        exact ⟨ret_int Hi.out.symm, rfl⟩
      | false =>
        have Hi := Lib.hid (any_take_succ hlt Hno.out hpx)
        go_wp2_with fail
        refine (Hp.out _ _).mono ?_
        rintro e w' ⟨rfl, rfl⟩
        go_wp2_with fail
        go_round
        case rel => exact ⟨k + 1, by omega, by go_num, Hi.out⟩
        case measure => simp [intOf]; omega
    · go_wp2
      go_ret
      have e : xs.take k = xs := List.take_of_length_le (by omega)
      have := Hno.out
      rw [e] at this
      exact ⟨ret_int (idx_miss this).symm, rfl⟩

theorem ContainsFunc64_any (g : Nat) (p : Int → Bool) (eg : ∀ args w, (callFunc g args).run Try.prog w = .ok (.enter g args) w)
    (hp : ∀ x w, Calls Try.prog g #[.int .i64 x] w fun e w' => e = .returned (.bool (p x)) ∧ w = w')
    (a : Option Addr) (c : Nat) (xs : List Int) (w : World) (h : Ints w a xs) :
    Calls Try.prog 44 #[.slice a xs.length c, .func (.func g) #[] #[]] w fun e w' => e = .returned (.bool (xs.any p)) ∧ w = w' := by
  have H := fun w' hw' => IndexFunc64_any g p eg hp a c xs w' hw'
  have H := Lib.hid H
  clear hp eg
  have Hi := Lib.hid (idx_any p xs)
  go_enter Try.func44, Try.ntmps44
  go_wp2_with fail
  refine (H.out _ h).mono ?_
  rintro e w' ⟨rfl, rfl⟩
  go_wp2_with fail
  go_ret
  exact ⟨ret_bool Hi.out, rfl⟩
theorem Clone64_any (a : Option Addr) (c : Nat) (xs : List Int) (w : World) (h : Ints w a xs) (hl : xs.length ≤ 1000000) :
    Calls Try.prog 49 #[.slice a xs.length c] w fun e w' => (∃ p c', e = .returned (.slice p xs.length c') ∧ New w.heap.size w' p 2 (xs.map (.int .i64))) ∧ Below w.heap.size w w' := by
  have heq := fun w n c => Lib.run_eql_slice_nil (P := Try.prog) w 22 2 a n c 0 0 Try.underlying22
  cases a with
  | none =>
    have hx : xs = [] := by
      rcases h.cells with h' | ⟨b, off, hp, _⟩
      · simpa using h'
      · cases hp
    subst hx
    go_enter Try.func49, Try.ntmps49
    go_wp2
    go_ret
    exact ⟨⟨none, 0, rfl, .inl rfl⟩, Below.refl _ _⟩
  | some ad =>
    go_enter Try.func49, Try.ntmps49
    go_wp2_with (at_builtin; refine append_i64s rfl _ _ rfl w.heap.size _ 0 [] rfl (World.ownsRow_lit w #[] 0 (Nat.le_refl _) (by decide) rfl) (some ad) c xs rfl ((h.cells.keep ((Below.refl _ _).alloc (Nat.le_refl _) _))) (by omega) (by simp) ?_; intro v' w1 hown hg)
    obtain ⟨p, c', rfl, hnew⟩ := row_new hown
    go_wp2
    go_ret
    refine ⟨⟨p, c', ?_, ?_⟩, ?_⟩
    · simp
    · simpa using hnew
    · exact ((Below.refl _ w).alloc (Nat.le_refl _) _).grown hg (by simp) (fun k hk => by cases hk; exact Nat.le_refl _)

theorem ownsRow_chg {w w' : World} {B : Nat} {e : TypeId} {v : Value} {n : Nat} {xs : List Value} {S : Nat → Prop} (h : w.ownsRow B e 1 v n xs) (hc : Chg S w w') (hr : ∀ k, S k → k < B) : w'.ownsRow B e 1 v n xs := by
  obtain ⟨h1, h2⟩ := h
  refine ⟨h1, ?_⟩
  rcases h2 with h2 | ⟨g, cap, cur, hv, hb, hg, hrest⟩
  · exact .inl h2
  · exact .inr ⟨g, cap, cur, hv, hb, (hc.block g (Array.getElem?_eq_some_iff.1 hg).1 (fun hs => by have := hr g hs; omega)).trans hg, hrest⟩
end Go.Proofs.Ytolkgjbljdmadaa
