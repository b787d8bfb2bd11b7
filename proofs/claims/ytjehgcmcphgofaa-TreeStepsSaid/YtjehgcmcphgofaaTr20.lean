/- tree.Steps: what it hands to each round; what a loop over it owes. No condition beyond what each says. -/
import Derived.Test.YtjehgcmcphgofaaTr19
namespace Go.Proofs.Ytjehgcmcphgofaa
open Go.RowKit Go.Shelf
set_option linter.unusedVariables false
set_option linter.unusedSimpArgs false
attribute [local go_sem] Oper.semAt_some

theorem Steps_any (d : TD) (w : World) :
    Calls Try.prog 20 #[.agg #[.int .i64 d.kind, .int .i64 d.fn, .int .i64 d.axis, .string d.name, .slice d.np d.nums.length d.nc, .slice d.kp d.n d.kc]] w fun e w' => e = .returned (.func (.func 35) #[] #[.pointer (some ⟨w.heap.size, 0, none⟩)]) ∧ w' = w.alloc (.cells #[.int .i64 d.kind, .int .i64 d.fn, .int .i64 d.axis, .string d.name, .slice d.np d.nums.length d.nc, .slice d.kp d.n d.kc] 25) := by
  go_enter Try.func20, Try.ntmps20
  go_wp2_with fail
  go_ret
  exact ⟨rfl, rfl⟩

set_option maxRecDepth 100000 in
set_option maxHeartbeats 2000000 in
theorem Steps1_seq (z : World) (t : TV) (hT : TreeIn z t) (w0 : World) (hz : Below z.heap.size z w0) (B : Nat) (ho : Own w0 B 25 [.int .i64 t.d.kind, .int .i64 t.d.fn, .int .i64 t.d.axis, .string t.d.name, .slice t.d.np t.d.nums.length t.d.nc, .slice t.d.kp t.d.n t.d.kc]) :
    SeqL 35 #[.pointer (some ⟨B, 0, none⟩)] (fun x : TV => #[.agg #[.int .i64 x.d.kind, .int .i64 x.d.fn, .int .i64 x.d.axis, .string x.d.name, .slice x.d.np x.d.nums.length x.d.nc, .slice x.d.kp x.d.n x.d.kc]]) (KpS z.heap.size (fun k => w0.heap.size + 2 ≤ k)) (stepsT t) w0 := by
  intro n l J Jx W hW hs hJ hJx hY h0
  have ho1 := ho.keep hW ho.lt
  have hzW : Below z.heap.size z W := hz.trans (hW.mono hz.size)
  have h0c := ho1.cell (i := 0) rfl
  have h1 := ho1.cell (i := 1) rfl
  have h2 := ho1.cell (i := 2) rfl
  have h3 := ho1.cell (i := 3) rfl
  have h4 := ho1.cell (i := 4) rfl
  have h5 := ho1.cell (i := 5) rfl
  have HC := Lib.hid (walk_any z W.heap.size l J Jx (stepsT t) hJ hJx (fun m pre x W1 hj hm => YieldAt.mono (hY m pre x W1 hj hm) fun e W2 h => ⟨h.1, h.2.mono fun k hk => Nat.le_trans hs hk⟩) t (n - 1) [] W hT hzW (Nat.le_refl _) h0 ⟨[], by simp⟩)
  clear ho1 hzW hW hs hJ hJx hY h0 ho hz
  change CallsIn Fence.wide n Try.prog 35 #[.func (.yield l) #[] #[], .pointer (some ⟨B, 0, none⟩)] W _
  refine callsIn_of_wp Try.func35 rfl trivial ?_ rfl
  simp only [Try.ntmps35, List.size_toArray, List.length_cons, List.length_nil, Nat.reduceAdd, Nat.reduceSub, Array.replicate_succ, Array.replicate_zero, List.push_toArray, List.append_toArray, List.nil_append, List.cons_append]
  gi_wp2
  refine ⟨trivial, (fun h => by cases h), HC.out.mono ?_⟩
  rintro e1 V ⟨⟨rfl, hJ1⟩ | ⟨rfl, q, hq0, hq1, hJ1⟩, -⟩
  · gi_wp2
    go_end0
    exact ⟨⟨_, rfl⟩, .inl (by simpa using hJ1)⟩
  · gi_wp2
    go_end0
    exact ⟨⟨_, rfl⟩, .inr ⟨q, hq0, List.prefix_iff_eq_take.1 hq1, by simpa using hJ1⟩⟩
theorem wpIn_range_steps {g : Operand} {ps : Array Tmp} {assign body : Code} {Q : Exit → Act → World → Prop} {a : Act} {w : World} {n : Nat}
    (z : World) (t : TV) (hT : TreeIn z t) (hz : Below z.heap.size z w) (B : Nat) (ho : Own w B 25 [.int .i64 t.d.kind, .int .i64 t.d.fn, .int .i64 t.d.axis, .string t.d.name, .slice t.d.np t.d.nums.length t.d.nc, .slice t.d.kp t.d.n t.d.kc])
    (hg : a.eval g = .func (.func 35) #[] #[.pointer (some ⟨B, 0, none⟩)]) (hps : ps.size = 1)
    (I : List TV → World → Prop) (Ix : Code → List TV → World → Prop) (hI : AbidesT w.heap.size I) (hIx : ∀ c, AbidesT w.heap.size (Ix c)) (h0 : I [] w)
    (Ax : TV → Act → World → Prop) (hAx : ∀ x a' W o o', Ax x a' W → W.heap[w.heap.size + 1]? = some o → o.isCells = false → Ax x a' (W.putObj (w.heap.size + 1) o'))
    (hassign : ∀ (l : Nat) (pre : List TV) (x : TV) (W : World) (K : Act → World → Prop), I pre W → (∀ a' W', KpS z.heap.size (fun k => w.heap.size ≤ k) W W' → I pre W' → Ax x a' W' → K a' W') →
      assign.wpIn (Fence.wide.inRound l) (n - 1 - 1) Try.prog (Exit.then K (fun _ _ _ => False)) { tmps := (ps.zip #[.agg #[.int .i64 x.d.kind, .int .i64 x.d.fn, .int .i64 x.d.axis, .string x.d.name, .slice x.d.np x.d.nums.length x.d.nc, .slice x.d.kp x.d.n x.d.kc]]).foldl (fun t (p, v) => t.setIfInBounds p v) a.tmps, defers := [] } W)
    (hbody : ∀ (l : Nat) (pre : List TV) (x : TV) (a' : Act) (W : World), l = w.heap.size + 1 → (∃ r, W.heap[l]? = some (.loop r)) → I pre W → Ax x a' W → pre ++ [x] = (stepsT t).take (pre.length + 1) →
      body.wpIn (Fence.wide.inRound l) (n - 1 - 1) Try.prog (postL (KpS z.heap.size (fun k => w.heap.size ≤ k)) I Ix (pre ++ [x]) W) a' W)
    (hdone : ∀ (D : Nat) (W : World), w.heap.size ≤ D → I (stepsT t) W → W.heap[D]? = some (.deferred (some [])) → Q .normal { a with defers := { target := .collected D, args := #[] } :: a.defers } W)
    (hstop : ∀ (D : Nat) (c : Code) (pre : List TV) (W : World), w.heap.size ≤ D → pre ≠ [] → pre = (stepsT t).take pre.length → Ix c pre W → W.heap[D]? = some (.deferred (some [])) → c.wpIn Fence.wide n Try.prog Q { a with defers := { target := .collected D, args := #[] } :: a.defers } W) :
    (Code.rangeFunc g ps assign body).wpIn Fence.wide n Try.prog Q a w :=
  wpIn_rangeFunc_L hg (enters_of Try.func35 (by kernel_rfl) rfl) (Steps1_seq z t hT w hz B ho) (Kp := KpS z.heap.size (fun k => w.heap.size ≤ k)) (fun h => h.from _ fun k hk => hk) (fun h => h.mono fun k hk => by omega) (fun h k => h.trans k)
    (fun V o o' hl hc => by
      have hlt := (Array.getElem?_eq_some_iff.1 hl).1
      have := hz.size
      exact KpS.grown (grownBy_putObj' _ _ _) (by omega) fun r e => by cases e; exact ⟨by omega, fun h => by omega⟩)
    (Below.refl _ _) (fun _ => hps.symm) I Ix hI hIx h0 Ax hAx hassign hbody hdone hstop
theorem stepsT_in {t x : TV} : ∀ {z : World}, TreeIn z t → x ∈ stepsT t → TreeIn z x := by
  induction t with
  | nil => intro z h; exact h.no
  | mk d kids ih =>
    intro z h hx
    rw [stepsT_mk, List.mem_append] at hx
    rcases hx with hx | hx
    · obtain ⟨l, hl, hx⟩ := List.mem_flatten.1 hx
      obtain ⟨i, hi, rfl⟩ := List.mem_map.1 hl
      exact ih i (h.kid (by simpa using hi)).2 hx
    · rw [List.mem_singleton.1 hx]
      exact h
theorem sum_map (f : Nat → Nat) : ∀ n, ((List.range n).map f).sum = sumTo n f
  | 0 => rfl
  | n + 1 => by simp [List.range_succ, sum_map f n, sumTo]
theorem stepsT_len (t : TV) : (stepsT t).length = sizeT t := by
  induction t with
  | nil => rfl
  | mk d kids ih =>
    rw [stepsT_mk, sizeT, ← sum_map, List.length_append, List.length_flatten, List.map_map]
    have : (List.length ∘ fun i => stepsT (kids i)) = fun i => sizeT (kids i) := funext fun i => ih i
    rw [this, List.map_reverse, List.sum_reverse, Nat.add_comm]
    rfl
end Go.Proofs.Ytjehgcmcphgofaa
