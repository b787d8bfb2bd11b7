/- Ranges over functions whose rounds are known beforehand. Turned from the kit's law for iterators that keep nothing in cells. No condition beyond what each says. -/
import Derived.Test.YtjehgcmcphgofaaTr16
import Derived.RangeFuncNested
import Derived.RangeFuncBound
import Derived.RangeFuncCalls
import Derived.RangeFuncLeaves
import Derived.Shelf.Abstract
import Derived.Shelf.RegionOpen
import Derived.WalkKit
import Derived.OwnWalkIn
import Derived.TacticsInMore
import Derived.LoopNIn
import Derived.LoopIn
namespace Go.Proofs.Ytjehgcmcphgofaa
open Go.RowKit Go.Shelf
set_option linter.unusedVariables false
set_option linter.unusedSimpArgs false
attribute [local go_sem] Oper.semAt_some

@[go_sem] theorem callVal_yield (a : Act) (dst : Option Tmp) (t : Tmp) (xs : Array Operand) (ats : Array TypeId) (ty : TypeId) (pos : String) (after : Array Edge) (guard : Option (Nat × Bool)) (l : Nat) (h : a.eval (.tmp t) = .func (.yield l) #[] #[]) :
    callVal a dst t xs ats ty pos after guard (.func (.yield l) #[] #[]) = Instr.yield l (xs.map a.eval) := by
  unfold callVal
  simp only
  unfold execOp
  simp only [resolve, invoke, h]
  simp [Deferred.ofValue]
theorem grown_of_below {w z : World} (h : Below w.heap.size w z) : w.grownBy z none := ⟨h.os, h.tape, h.output, h.size, fun k hk _ => h.block k hk⟩
theorem grown_up {w z : World} (h : w.grownBy z none) (r : Option Nat) : w.grownBy z r := ⟨h.os, h.tape, h.output, h.size, fun k hk _ => h.block k hk (by simp)⟩
theorem grown_trans {a b c : World} {r : Option Nat} (h : a.grownBy b r) (k : b.grownBy c r) : a.grownBy c r :=
  ⟨k.os.trans h.os, k.tape.trans h.tape, k.output.trans h.output, Nat.le_trans h.size k.size, fun j hj hne => (k.block j (Nat.lt_of_lt_of_le hj h.size) hne).trans (h.block j hj hne)⟩
theorem anyRound {m m' : Nat} {P : Program} {l : Nat} {f : FuncId} {tmps : Array Value} {assign body : Code} {w : World} {R : Ending → World → Prop}
    (h : RoundIn Fence.wide m P l f tmps assign body w R) : RoundIn Fence.wide m' P l f tmps assign body w R := ⟨h.1, fun c cs _ => h.2 c cs (room_wide _)⟩
theorem anyYield {m : Nat} (m' : Nat) {P : Program} {l : Nat} {args : Array Value} {W : World} {R : Ending → World → Prop} (h : YieldAt Fence.wide m P l args W R) : YieldAt Fence.wide m' P l args W R := by
  obtain ⟨fn, tmps, assign, body, hy, hR⟩ := h
  exact ⟨fn, tmps, assign, body, hy, anyRound hR⟩

/-- an object that is no row of texts -/
def NoTexts (o : Obj) : Prop := ∀ vs q, o ≠ .cells vs 9 q
theorem noTexts_cells {vs : Array Value} {T : TypeId} {q : Nat × Nat} (h : T ≠ 9) : NoTexts (.cells vs T q) := fun _ _ e => by cases e; exact h rfl
theorem noTexts_other {o : Obj} (h : o.isCells = false) : NoTexts o := fun _ _ e => by subst e; cases h
/-- what lay below n₀ lies; in the blocks of S all but rows of texts -/
structure KpS (n₀ : Nat) (S : Nat → Prop) (A B : World) : Prop where
  below : Below n₀ A B
  same : ∀ k o, S k → A.heap[k]? = some o → NoTexts o → B.heap[k]? = some o
theorem KpS.trans {n₀ : Nat} {S : Nat → Prop} {A B C : World} (h : KpS n₀ S A B) (k : KpS n₀ S B C) : KpS n₀ S A C :=
  ⟨h.below.trans k.below, fun j o hj hA hn => k.same j o hj (h.same j o hj hA hn) hn⟩
theorem KpS.mono {n₀ : Nat} {S S' : Nat → Prop} {A B : World} (h : KpS n₀ S A B) (hS : ∀ k, S' k → S k) : KpS n₀ S' A B := ⟨h.below, fun j o hj => h.same j o (hS j hj)⟩
theorem KpS.refl (n₀ : Nat) (S : Nat → Prop) (A : World) : KpS n₀ S A A := ⟨Below.refl _ _, fun _ _ _ h _ => h⟩
theorem KpS.of {n₀ : Nat} {S : Nat → Prop} {A B : World} (hb : Below A.heap.size A B) (h : n₀ ≤ A.heap.size) : KpS n₀ S A B := ⟨hb.mono h, fun k o _ hA _ => (hb.block k (Array.getElem?_eq_some_iff.1 hA).1).trans hA⟩
theorem KpS.grown {n₀ : Nat} {S : Nat → Prop} {A B : World} {row : Option Nat} (hg : A.grownBy B row) (h : n₀ ≤ A.heap.size) (hr : ∀ r, row = some r → n₀ ≤ r ∧ (S r → ∃ vs q, A.heap[r]? = some (.cells vs 9 q))) : KpS n₀ S A B :=
  ⟨(Below.refl _ A).grown hg h (fun k e => (hr k e).1), fun k o hS hA hn => by
    refine (hg.block k (Array.getElem?_eq_some_iff.1 hA).1 fun e => ?_).trans hA
    obtain ⟨vs, q, hq⟩ := (hr k e.symm).2 hS
    rw [hA] at hq
    cases hq
    exact hn _ _ rfl⟩
theorem KpS.from {n₀ : Nat} {S : Nat → Prop} {A B : World} (h : KpS n₀ S A B) (b : Nat) (hS : ∀ k, b ≤ k → S k) : KeepsFrom b A B := ⟨h.below.size, fun k o hk hA ho => h.same k o (hS k hk) hA (noTexts_other ho)⟩
/-- an own row of another kind lies as it lay -/
theorem KpS.own {n₀ : Nat} {S : Nat → Prop} {A B : World} (h : KpS n₀ S A B) {g : Nat} {e : TypeId} {vs : List Value} (ho : Own A g e vs) (hg : S g) (he : e ≠ 9) : Own B g e vs := by
  obtain ⟨r, h'⟩ := ho
  exact ⟨r, h.same g _ hg h' (noTexts_cells he)⟩
/-- what new memory leaves, and a change of one block from B on that is no row of texts -/
def AbidesT {β : Type} (B : Nat) (J : β → World → Prop) : Prop :=
  ∀ s X Y row, J s X → X.grownBy Y row → (∀ r, row = some r → B ≤ r ∧ ∀ o, X.heap[r]? = some o → NoTexts o) → J s Y
theorem AbidesT.mono {β : Type} {B B' : Nat} {J : β → World → Prop} (h : AbidesT B J) (hB : B ≤ B') : AbidesT B' J := fun s X Y row hs hg hr => h s X Y row hs hg fun r e => ⟨Nat.le_trans hB (hr r e).1, (hr r e).2⟩
theorem AbidesT.put {β : Type} {B : Nat} {J : β → World → Prop} (h : AbidesT B J) {s : β} {X : World} {l : Nat} {o : Obj} (o' : Obj) (hs : J s X) (hB : B ≤ l) (hl : X.heap[l]? = some o) (ho : o.isCells = false) : J s (X.putObj l o') :=
  h s X _ _ hs (grownBy_putObj' X l o') fun r e => by cases e; exact ⟨hB, fun o'' h' => by rw [hl] at h'; cases h'; exact noTexts_other ho⟩
theorem AbidesT.below {β : Type} {B : Nat} {J : β → World → Prop} (h : AbidesT B J) {s : β} {X Y : World} (hs : J s X) (hb : Below X.heap.size X Y) : J s Y := h s X Y none hs (grown_of_below hb) fun r e => by cases e
theorem AbidesT.set {β : Type} {B : Nat} {J : β → World → Prop} (h : AbidesT B J) {s : β} {X : World} {g : Nat} {e : TypeId} {vs : List Value} (hs : J s X) (ho : Own X g e vs) (hB : B ≤ g) (he : e ≠ 9) (v : Value) : J s (X.setCell ⟨g, 0, none⟩ v) :=
  h s X _ _ hs (grownBy_setCell' X g v) fun r e' => by cases e'; exact ⟨hB, fun o h' => by obtain ⟨q, hq⟩ := ho; rw [hq] at h'; cases h'; exact noTexts_cells he⟩
/-- an iterator that hands on the values of L in their order -/
def SeqL {α : Type} (gf : Nat) (lb : Array Value) (encs : α → Array Value) (Kq : World → World → Prop) (L : List α) (w0 : World) : Prop :=
  ∀ (n l : Nat) (J Jx : List α → World → Prop) (W : World), Below w0.heap.size w0 W → w0.heap.size + 2 ≤ W.heap.size → AbidesT W.heap.size J → AbidesT W.heap.size Jx →
    (∀ m pre x W1, J pre W1 → pre ++ [x] = L.take (pre.length + 1) → YieldAt Fence.wide m Try.prog l (encs x) W1 fun e W' =>
      ((e = .returned (.bool true) ∧ J (pre ++ [x]) W') ∨ (e = .returned (.bool false) ∧ Jx (pre ++ [x]) W')) ∧ Kq W1 W') →
    J [] W →
    CallsIn Fence.wide n Try.prog gf (#[.func (.yield l) #[] #[]] ++ lb) W fun e W' => (∃ v, e = .returned v) ∧ (J L W' ∨ ∃ pre, pre ≠ [] ∧ pre = L.take pre.length ∧ Jx pre W')
/-- how the body of a round may be left -/
def postL {α : Type} (Kp : World → World → Prop) (I : List α → World → Prop) (Ix : Code → List α → World → Prop) (xs : List α) (W : World) : Exit → Act → World → Prop
  | .normal, _, W' => Kp W W' ∧ I xs W'
  | .ret, _, W' => Kp W W' ∧ Ix .ret xs W'
  | .exit id, _, W' => Kp W W' ∧ Ix (.exit id) xs W'
  | .goto t, _, W' => Kp W W' ∧ Ix (.goto t) xs W'
  | .panic _, _, _ => False
  | .outgrown, _, _ => False

set_option maxHeartbeats 2000000 in
theorem wpIn_rangeFunc_L {α : Type} {g : Operand} {ps : Array Tmp} {assign body : Code} {Q : Exit → Act → World → Prop} {a : Act} {w : World} {n : Nat}
    {gf : Nat} {lb : Array Value} (hg : a.eval g = .func (.func gf) #[] lb) (eg : ∀ args w, (callFunc gf args).run Try.prog w = .ok (.enter gf args) w)
    {encs : α → Array Value} {Kp Kq : World → World → Prop} {L : List α} {w0 : World} (hseq : SeqL gf lb encs Kq L w0)
    (hKf : ∀ {A B : World}, Kp A B → KeepsFrom w.heap.size A B) (hKq : ∀ {A B : World}, Kp A B → Kq A B) (hKt : ∀ {A B C : World}, Kq A B → Kq B C → Kq A C)
    (hKb : ∀ (W : World) (o o' : Obj), W.heap[w.heap.size + 1]? = some o → o.isCells = false → Kq W (W.putObj (w.heap.size + 1) o'))
    (hb0 : Below w0.heap.size w0 w) (hps : ∀ x, (encs x).size = ps.size)
    (I : List α → World → Prop) (Ix : Code → List α → World → Prop) (hI : AbidesT w.heap.size I) (hIx : ∀ c, AbidesT w.heap.size (Ix c)) (h0 : I [] w)
    (Ax : α → Act → World → Prop) (hAx : ∀ x a' W o o', Ax x a' W → W.heap[w.heap.size + 1]? = some o → o.isCells = false → Ax x a' (W.putObj (w.heap.size + 1) o'))
    (hassign : ∀ (l : Nat) (pre : List α) (x : α) (W : World) (K : Act → World → Prop), I pre W → (∀ a' W', Kp W W' → I pre W' → Ax x a' W' → K a' W') →
      assign.wpIn (Fence.wide.inRound l) (n - 1 - 1) Try.prog (Exit.then K (fun _ _ _ => False)) { tmps := (ps.zip (encs x)).foldl (fun t (p, v) => t.setIfInBounds p v) a.tmps, defers := [] } W)
    (hbody : ∀ (l : Nat) (pre : List α) (x : α) (a' : Act) (W : World), l = w.heap.size + 1 → (∃ r, W.heap[l]? = some (.loop r)) → I pre W → Ax x a' W → pre ++ [x] = L.take (pre.length + 1) →
      body.wpIn (Fence.wide.inRound l) (n - 1 - 1) Try.prog (postL Kp I Ix (pre ++ [x]) W) a' W)
    (hdone : ∀ (D : Nat) (W : World), w.heap.size ≤ D → I L W → W.heap[D]? = some (.deferred (some [])) → Q .normal { a with defers := { target := .collected D, args := #[] } :: a.defers } W)
    (hstop : ∀ (D : Nat) (c : Code) (pre : List α) (W : World), w.heap.size ≤ D → pre ≠ [] → pre = L.take pre.length → Ix c pre W → W.heap[D]? = some (.deferred (some [])) → c.wpIn Fence.wide n Try.prog Q { a with defers := { target := .collected D, args := #[] } :: a.defers } W) :
    (Code.rangeFunc g ps assign body).wpIn Fence.wide n Try.prog Q a w := by
  refine wpIn_rangeFunc ?_
  intro fn hfn
  rw [show Fence.wide.round = none from rfl]
  obtain ⟨rec, hrec⟩ : ∃ rec : LoopState → Option Code → Loop, rec = fun st pe => { state := st, pending := pe, fn, tmps := a.tmps, params := ps, assign, body, defers := w.heap.size } := ⟨_, rfl⟩
  obtain ⟨W1, hW1⟩ : ∃ W1, (w.alloc (.deferred (some []))).alloc (.loop (rec .ready none)) = W1 := ⟨_, rfl⟩
  have hs1 : W1.heap.size = w.heap.size + 2 := by rw [← hW1]; simp
  have hL1 : W1.heap[w.heap.size + 1]? = some (.loop (rec .ready none)) := by
    rw [← hW1]; have := World.alloc_heap_new (w.alloc (.deferred (some []))) (.loop (rec .ready none)); rwa [World.size_alloc] at this
  have hK1 : W1.heap[w.heap.size]? = some (.deferred (some [])) := by
    rw [← hW1]; exact (Below.heap_alloc _ _ _ (by simp)).trans (World.alloc_heap_new w _)
  have hg1 : w.grownBy W1 none := by
    rw [← hW1]
    exact grown_trans (World.grownBy_alloc w _ none) (World.grownBy_alloc _ _ none)
  have hb1 : Below w0.heap.size w0 W1 := hb0.grown hg1 hb0.size (fun k e => by cases e)
  refine ⟨w.heap.size + 1, [{ target := .collected w.heap.size, args := #[] }], W1, { target := .fn (.func gf) lb, args := #[.func (.yield (w.heap.size + 1)) #[] #[]] }, W1, gf,
    #[.func (.yield (w.heap.size + 1)) #[] #[]] ++ lb, W1, ?_, ?_, ?_, ?_, (fun h => by cases h), ?_⟩
  · rw [← hW1, hrec]; exact run_enterLoop_outer _ _ _ _ _
  · simp only [resolve, hg]
    simp [go_sem]
  · intro f' hf'; simp [Target.leads] at hf'; subst hf'; trivial
  · simp [invoke, go_sem, eg]
  · have gp : ∀ (W : World) (l : Nat) (o' : Obj), W.grownBy (W.putObj l o') (some l) := fun W l o' => grownBy_putObj' W l o'
    have hstay : ∀ {A B : World} {row : Option Nat} {k : Nat} {o : Obj}, A.grownBy B row → (∀ r, row = some r → W1.heap.size ≤ r ∧ ∀ o, A.heap[r]? = some o → NoTexts o) → k < w.heap.size + 2 → A.heap[k]? = some o → B.heap[k]? = some o :=
      fun hg' hr hk hA => (hg'.block _ (Array.getElem?_eq_some_iff.1 hA).1 (fun e => by have := (hr _ e.symm).1; omega)).trans hA
    have hup : ∀ {A : World} {row : Option Nat}, (∀ r, row = some r → W1.heap.size ≤ r ∧ ∀ o, A.heap[r]? = some o → NoTexts o) → (∀ r, row = some r → w.heap.size ≤ r ∧ ∀ o, A.heap[r]? = some o → NoTexts o) := fun hr r e => ⟨by have := (hr r e).1; omega, (hr r e).2⟩
    refine (hseq (n - 1) (w.heap.size + 1)
      (fun pre W => I pre W ∧ W.heap[w.heap.size + 1]? = some (.loop (rec .ready none)) ∧ W.heap[w.heap.size]? = some (.deferred (some [])))
      (fun pre W => ∃ c, Ix c pre W ∧ W.heap[w.heap.size + 1]? = some (.loop (rec .done (some c))) ∧ W.heap[w.heap.size]? = some (.deferred (some [])))
      W1 hb1 (by have := hb0.size; omega)
      (fun s A B row hs hg' hr => ⟨hI s A B row hs.1 hg' (hup hr), hstay hg' hr (by omega) hs.2.1, hstay hg' hr (by omega) hs.2.2⟩)
      (fun s A B row hs hg' hr => by
        obtain ⟨c, hc, hl, hk⟩ := hs
        exact ⟨c, hIx c s A B row hc hg' (hup hr), hstay hg' hr (by omega) hl, hstay hg' hr (by omega) hk⟩)
      ?_ ⟨hI _ _ _ _ h0 hg1 (fun r e => by cases e), hL1, hK1⟩).mono ?_
    · -- one round
      rintro m pre x W ⟨hi, hl, hk⟩ hmap
      have hlt : w.heap.size + 1 < W.heap.size := (Array.getElem?_eq_some_iff.1 hl).1
      have hy := run_yield (P := Try.prog) (args := encs x) hl (by rw [hrec]; exact hps x)
      rw [hrec] at hy
      refine anyYield (m := n - 1 - 1) m ⟨fn, _, assign, body, hy, roundIn_of_wpIn hfn (hassign _ pre x W _ hi ?_)⟩
      clear hy
      intro a' Wa hkpa hia hax
      have hkfa := hKf hkpa
      replace hl := hkfa.same _ _ (by omega) hl rfl
      replace hk := hkfa.same _ _ (Nat.le_refl _) hk rfl
      replace hlt : w.heap.size + 1 < Wa.heap.size := (Array.getElem?_eq_some_iff.1 hl).1
      refine ⟨_, run_beginRound hl (by rw [hrec]), ?_⟩
      have hl2 : (Wa.putObj (w.heap.size + 1) (.loop { rec .ready none with state := .busy })).heap[w.heap.size + 1]? = some (.loop { rec .ready none with state := .busy }) := World.putObj_heap_same hlt
      have hk2 : (Wa.putObj (w.heap.size + 1) (.loop { rec .ready none with state := .busy })).heap[w.heap.size]? = some (.deferred (some [])) := (World.putObj_heap_other (by omega)).trans hk
      have hw2 : Kq W (Wa.putObj (w.heap.size + 1) (.loop { rec .ready none with state := .busy })) := hKt (hKq hkpa) (hKb _ _ _ hl rfl)
      refine wpIn_mono (hbody _ pre x a' _ rfl ⟨_, hl2⟩ (hI.put _ hia (by omega) hl rfl) (hAx x a' _ _ _ hax hl rfl) hmap) ?_
      have fin : ∀ (jump : Option Code) (W3 : World), Kp (Wa.putObj (w.heap.size + 1) (.loop { rec .ready none with state := .busy })) W3 →
          (Instr.endRound (w.heap.size + 1) jump).run Try.prog W3 = .ok (.bool jump.isNone) (W3.putObj (w.heap.size + 1) (.loop (rec (if jump.isNone then .ready else .done) jump))) ∧
          W3.heap[w.heap.size + 1]? = some (.loop { rec .ready none with state := .busy }) ∧
          (W3.putObj (w.heap.size + 1) (.loop (rec (if jump.isNone then .ready else .done) jump))).heap[w.heap.size + 1]? = some (.loop (rec (if jump.isNone then .ready else .done) jump)) ∧
          (W3.putObj (w.heap.size + 1) (.loop (rec (if jump.isNone then .ready else .done) jump))).heap[w.heap.size]? = some (.deferred (some [])) ∧
          Kq W (W3.putObj (w.heap.size + 1) (.loop (rec (if jump.isNone then .ready else .done) jump))) := fun jump W3 hkp3 => by
        have hk3 := hKf hkp3
        have hl3 := hk3.same _ _ (by omega) hl2 rfl
        have hq3 := hKt hw2 (hKt (hKq hkp3) (hKb _ _ (.loop (rec (if jump.isNone then .ready else .done) jump)) hl3 rfl))
        have := run_endRound (P := Try.prog) jump hl3
        refine ⟨?_, hl3, World.putObj_heap_same (Array.getElem?_eq_some_iff.1 hl3).1, (World.putObj_heap_other (by omega)).trans (hk3.same _ _ (Nat.le_refl _) hk2 rfl), hq3⟩
        rw [hrec] at this ⊢
        exact this
      rintro e a3 W3 hp
      cases e with
      | normal =>
        obtain ⟨hk3, hi3⟩ := hp
        obtain ⟨hr, hl3, hl4, hk4, hq4⟩ := fin none W3 hk3
        exact ⟨_, _, hr, .inl ⟨rfl, hI.put _ hi3 (by omega) hl3 rfl, hl4, hk4⟩, hq4⟩
      | ret =>
        obtain ⟨hk3, hi3⟩ := hp
        obtain ⟨hr, hl3, hl4, hk4, hq4⟩ := fin (some .ret) W3 hk3
        exact ⟨_, _, hr, .inr ⟨rfl, .ret, (hIx _).put _ hi3 (by omega) hl3 rfl, hl4, hk4⟩, hq4⟩
      | exit id =>
        obtain ⟨hk3, hi3⟩ := hp
        obtain ⟨hr, hl3, hl4, hk4, hq4⟩ := fin (some (.exit id)) W3 hk3
        exact ⟨_, _, hr, .inr ⟨rfl, .exit id, (hIx _).put _ hi3 (by omega) hl3 rfl, hl4, hk4⟩, hq4⟩
      | goto t =>
        obtain ⟨hk3, hi3⟩ := hp
        obtain ⟨hr, hl3, hl4, hk4, hq4⟩ := fin (some (.goto t)) W3 hk3
        exact ⟨_, _, hr, .inr ⟨rfl, .goto t, (hIx _).put _ hi3 (by omega) hl3 rfl, hl4, hk4⟩, hq4⟩
      | panic ch => exact hp.elim
      | outgrown => exact hp.elim
    · -- behind the iterator
      rintro e W2 ⟨⟨v, rfl⟩, (⟨hi, hl, hk⟩ | ⟨pre, hne, hSp, c, hi, hl, hk⟩)⟩
      · exact ⟨none, _, by have := run_endLoop (P := Try.prog) hl (by rw [hrec]; simp); rw [hrec] at this; exact this, hdone _ _ (Nat.le_refl _) (hI.put _ hi (by omega) hl rfl) ((World.putObj_heap_other (by omega)).trans hk)⟩
      · exact ⟨some c, _, by have := run_endLoop (P := Try.prog) hl (by rw [hrec]; simp); rw [hrec] at this; exact this, hstop _ c pre _ (Nat.le_refl _) hne hSp ((hIx c).put _ hi (by omega) hl rfl) ((World.putObj_heap_other (by omega)).trans hk)⟩
end Go.Proofs.Ytjehgcmcphgofaa
