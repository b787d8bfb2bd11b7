/- tree.walk: the nodes of a tree in the order of evaluation. No condition beyond what each says. -/
import Derived.Test.YtjehgcmcphgofaaTr18
namespace Go.Proofs.Ytjehgcmcphgofaa
open Go.RowKit Go.Shelf
set_option linter.unusedVariables false
set_option linter.unusedSimpArgs false
attribute [local go_sem] Oper.semAt_some

/-- the nodes in the order of evaluation -/
def stepsT : TV → List TV
  | .nil => [.nil]
  | .mk d kids => (((List.range d.n).reverse).map fun i => stepsT (kids i)).flatten ++ [.mk d kids]
theorem stepsT_mk (d : TD) (kids : Nat → TV) : stepsT (.mk d kids) = (((List.range d.n).reverse).map fun i => stepsT (kids i)).flatten ++ [.mk d kids] := rfl
theorem KpS.up {n₀ : Nat} {S : Nat → Prop} {W X Y : World} {row : Option Nat} (h : KpS n₀ S W X) (hg : X.grownBy Y row) (hn : n₀ ≤ W.heap.size) (hr : ∀ r, row = some r → W.heap.size ≤ r) : KpS n₀ S W Y :=
  ⟨h.below.grown hg (Nat.le_trans hn h.below.size) (fun k e => Nat.le_trans hn (hr k e)), fun k o hk hA hT => by
    have h1 := (Array.getElem?_eq_some_iff.1 hA).1
    have h2 := h.same k o hk hA hT
    exact (hg.block k (Array.getElem?_eq_some_iff.1 h2).1 (fun e => by have := hr k e.symm; omega)).trans h2⟩
/-- what a walk over a tree does -/
def Walks (z : World) (N1 l : Nat) (J Jx : List TV → World → Prop) (all : List TV) (t : TV) : Prop :=
  ∀ (n : Nat) (pre : List TV) (W : World), TreeIn z t → Below z.heap.size z W → N1 ≤ W.heap.size → J pre W → (∃ post, pre ++ stepsT t ++ post = all) →
    CallsIn Fence.wide n Try.prog 36 #[.agg #[.int .i64 t.d.kind, .int .i64 t.d.fn, .int .i64 t.d.axis, .string t.d.name, .slice t.d.np t.d.nums.length t.d.nc, .slice t.d.kp t.d.n t.d.kc], .func (.yield l) #[] #[]] W fun e W' =>
      ((e = .returned (.bool true) ∧ J (pre ++ stepsT t) W') ∨ (e = .returned (.bool false) ∧ ∃ q, q ≠ [] ∧ q <+: stepsT t ∧ Jx (pre ++ q) W')) ∧ KpS z.heap.size (fun k => N1 ≤ k) W W'
/-- what is held between two rounds over the kids -/
structure WalkI (z : World) (N1 l B B3 B4 : Nat) (J : List TV → World → Prop) (pre : List TV) (d : TD) (kids : Nat → TV) (W : World) (ks : List Nat) (X : World) : Prop where
  come : J (pre ++ (ks.map fun i => stepsT (kids i)).flatten) X
  low : Below z.heap.size z X
  kp : KpS z.heap.size (fun k => N1 ≤ k) W X
  o2 : Own X B 25 [.int .i64 d.kind, .int .i64 d.fn, .int .i64 d.axis, .string d.name, .slice d.np d.nums.length d.nc, .slice d.kp d.n d.kc]
  o3 : Own X B3 28 [.func (.yield l) #[] #[]]
  o4 : ∃ v, Own X B4 4 [v]
  sz : B + 4 ≤ X.heap.size
  e3 : B3 = B + 1
  e4 : B4 = B + 2
/-- what is held when the walk is cut short -/
structure WalkX (z : World) (N1 B B4 : Nat) (Jx : List TV → World → Prop) (pre : List TV) (t : TV) (W : World) (c : Code) (X : World) : Prop where
  ret : c = .ret
  come : ∃ q, q ≠ [] ∧ q <+: stepsT t ∧ Jx (pre ++ q) X
  kp : KpS z.heap.size (fun k => N1 ≤ k) W X
  o4 : Own X B4 4 [.bool false]
  low : Below z.heap.size z X
  sz : B + 4 ≤ X.heap.size
  e4 : B4 = B + 2
theorem WalkI.abides {z : World} {N1 l B B3 B4 : Nat} {J : List TV → World → Prop} {pre : List TV} {d : TD} {kids : Nat → TV} {W : World} (hJ : AbidesT N1 J) {M : Nat} (hN : N1 ≤ B) (hM : B + 4 ≤ M) (hz : z.heap.size ≤ W.heap.size) (hW : W.heap.size = B) :
    AbidesT M (WalkI z N1 l B B3 B4 J pre d kids W) := fun s X Y row h hg hr => by
  have hne : ∀ k, k < M → some k ≠ row := fun k hk e => by have := (hr k e.symm).1; omega
  have e3 := h.e3
  have e4 := h.e4
  obtain ⟨v, h4⟩ := h.o4
  exact ⟨hJ _ X Y row h.come hg fun r e => ⟨by have := (hr r e).1; omega, (hr r e).2⟩, h.low.grown hg h.low.size fun r e => by have := (hr r e).1; omega,
    h.kp.up hg hz fun r e => by have := (hr r e).1; omega, h.o2.grown hg (hne _ (by omega)), h.o3.grown hg (hne _ (by omega)), ⟨v, h4.grown hg (hne _ (by omega))⟩, Nat.le_trans h.sz hg.size, e3, e4⟩
theorem WalkX.abides {z : World} {N1 B B4 : Nat} {Jx : List TV → World → Prop} {pre : List TV} {t : TV} {W : World} (hJ : AbidesT N1 Jx) {M : Nat} (hN : N1 ≤ B) (hM : B + 4 ≤ M) (hz : z.heap.size ≤ W.heap.size) (hW : W.heap.size = B) (c : Code) :
    AbidesT M (fun (_ : List Nat) X => WalkX z N1 B B4 Jx pre t W c X) := fun s X Y row h hg hr => by
  have hne : ∀ k, k < M → some k ≠ row := fun k hk e => by have := (hr k e.symm).1; omega
  have e4 := h.e4
  obtain ⟨q, hq, hp, hj⟩ := h.come
  exact ⟨h.ret, ⟨q, hq, hp, hJ _ X Y row hj hg fun r e => ⟨by have := (hr r e).1; omega, (hr r e).2⟩⟩,
    h.kp.up hg hz fun r e => by have := (hr r e).1; omega, h.o4.grown hg (hne _ (by omega)), h.low.grown hg h.low.size fun r e => by have := (hr r e).1; omega, Nat.le_trans h.sz hg.size, e4⟩
/-- the four boxes of a walk -/
theorem walk_boxes (W : World) (l : Nat) (d : TD) : ∃ X B3 B4, B3 = W.heap.size + 1 ∧ B4 = W.heap.size + 1 + 1 ∧ ((((W.alloc (.cells #[.int .i64 d.kind, .int .i64 d.fn, .int .i64 d.axis, .string d.name, .slice d.np d.nums.length d.nc, .slice d.kp d.n d.kc] 25)).alloc (.cells #[.func (.yield l) #[] #[]] 28)).alloc (.cells #[.bool false] 4))) = X ∧
    Own X W.heap.size 25 [.int .i64 d.kind, .int .i64 d.fn, .int .i64 d.axis, .string d.name, .slice d.np d.nums.length d.nc, .slice d.kp d.n d.kc] ∧ Own X B3 28 [.func (.yield l) #[] #[]] ∧ Own X B4 4 [.bool false] ∧ Below W.heap.size W X ∧ X.heap.size = W.heap.size + 3 := by
  refine ⟨_, _, _, rfl, rfl, rfl, ?_, ?_, ?_, ?_, by simp⟩
  · exact ((Own.made W _ [.int .i64 d.kind, .int .i64 d.fn, .int .i64 d.axis, .string d.name, .slice d.np d.nums.length d.nc, .slice d.kp d.n d.kc] _ rfl).keep (below_alloc _ _) (by simp)).keep (below_alloc _ _) (by simp; omega)
  · exact (Own.made _ _ [_] _ (by simp)).keep (below_alloc _ _) (by simp)
  · exact Own.made _ _ [_] _ (by simp)
  · exact below_t (below_t (below_alloc _ _) (below_alloc _ _)) (below_alloc _ _)

theorem walk_all {pre post all : List TV} {d : TD} {kids : Nat → TV} (h : pre ++ stepsT (.mk d kids) ++ post = all) {ks : List Nat} {x : Nat} (hm : ks ++ [x] = (List.range d.n).reverse.take (ks.length + 1)) :
    x < d.n ∧ ∃ post', pre ++ (ks.map fun i => stepsT (kids i)).flatten ++ stepsT (kids x) ++ post' = all := by
  have hL : (ks ++ [x]) ++ (List.range d.n).reverse.drop (ks.length + 1) = (List.range d.n).reverse := by rw [hm]; exact List.take_append_drop _ _
  constructor
  · have : x ∈ (List.range d.n).reverse := by rw [← hL]; simp
    simpa using this
  · refine ⟨(((List.range d.n).reverse.drop (ks.length + 1)).map fun i => stepsT (kids i)).flatten ++ [.mk d kids] ++ post, ?_⟩
    rw [← h, stepsT_mk]
    conv => rhs; rw [← hL]
    simp only [List.map_append, List.flatten_append, List.append_assoc, List.map_cons, List.map_nil, List.flatten_cons, List.flatten_nil, List.nil_append]
theorem walk_last {pre post all : List TV} {d : TD} {kids : Nat → TV} (h : pre ++ stepsT (.mk d kids) ++ post = all) :
    pre ++ ((List.range d.n).reverse.map fun i => stepsT (kids i)).flatten ++ [.mk d kids] = all.take ((pre ++ ((List.range d.n).reverse.map fun i => stepsT (kids i)).flatten).length + 1) := by
  rw [← h, stepsT_mk, ← List.append_assoc, List.take_append_of_le_length (by simp; omega), List.take_of_length_le (by simp; omega)]
theorem walk_pre {d : TD} {kids : Nat → TV} {ks : List Nat} {x : Nat} (hm : ks ++ [x] = (List.range d.n).reverse.take (ks.length + 1)) {q : List TV} (hq : q <+: stepsT (kids x)) :
    (ks.map fun i => stepsT (kids i)).flatten ++ q <+: stepsT (.mk d kids) := by
  have hL : (ks ++ [x]) ++ (List.range d.n).reverse.drop (ks.length + 1) = (List.range d.n).reverse := by rw [hm]; exact List.take_append_drop _ _
  obtain ⟨r, hr⟩ := hq
  refine ⟨r ++ (((List.range d.n).reverse.drop (ks.length + 1)).map fun i => stepsT (kids i)).flatten ++ [.mk d kids], ?_⟩
  rw [stepsT_mk]
  conv => rhs; rw [← hL]
  simp only [List.map_append, List.flatten_append, List.append_assoc, List.map_cons, List.map_nil, List.flatten_cons, List.flatten_nil, List.nil_append, ← hr]

set_option maxRecDepth 100000 in
set_option maxHeartbeats 4000000 in
theorem walk_step (z : World) (N1 l : Nat) (J Jx : List TV → World → Prop) (all : List TV) (hJ : AbidesT N1 J) (hJx : AbidesT N1 Jx)
    (hY : ∀ m pre x W, J pre W → pre ++ [x] = all.take (pre.length + 1) → YieldAt Fence.wide m Try.prog l #[.agg #[.int .i64 x.d.kind, .int .i64 x.d.fn, .int .i64 x.d.axis, .string x.d.name, .slice x.d.np x.d.nums.length x.d.nc, .slice x.d.kp x.d.n x.d.kc]] W fun e W' =>
      ((e = .returned (.bool true) ∧ J (pre ++ [x]) W') ∨ (e = .returned (.bool false) ∧ Jx (pre ++ [x]) W')) ∧ KpS z.heap.size (fun k => N1 ≤ k) W W')
    (d : TD) (kids : Nat → TV) (ih : ∀ i, Walks z N1 l J Jx all (kids i)) : Walks z N1 l J Jx all (.mk d kids) := by
  intro n pre W hT hz hN hJp hall
  obtain ⟨W1, B3, B4, hB3, hB4, hW1, o2, o3, o4, hb1, hs1⟩ := walk_boxes W l d
  obtain ⟨W2, hW2⟩ : ∃ W2, W1.alloc (.cells #[.slice d.kp d.n d.kc] 23) = W2 := ⟨_, rfl⟩
  have hb2 : Below W1.heap.size W1 W2 := by rw [← hW2]; exact below_alloc _ _
  have o5 : Own W2 W1.heap.size 23 [.slice d.kp d.n d.kc] := by rw [← hW2]; exact Own.made W1 _ [_] _ rfl
  have hs2 : W2.heap.size = W.heap.size + 4 := by rw [← hW2]; simp; omega
  have q2 := o2.keep hb2 o2.lt
  have q3 := o3.keep hb2 o3.lt
  have q4 := o4.keep hb2 o4.lt
  have hbw := below_t hb1 hb2
  have HI0 : Hid (WalkI z N1 l W.heap.size B3 B4 J pre d kids W [] W2) := ⟨by simpa using hJ.below hJp hbw, hz.trans (hbw.mono hz.size), KpS.of hbw hz.size, q2, q3, ⟨_, q4⟩, by omega, by omega, by omega⟩
  have hzs := hz.size
  obtain ⟨B5, hB5⟩ : ∃ B5, W1.heap.size = B5 := ⟨_, rfl⟩
  rw [hB5] at o5
  have HSQ := Lib.hid (Backward1_seq z d kids hT W2 (hz.trans (hbw.mono hz.size)) B5 o5)
  have HB5 := Lib.hid hB5
  have HN : Hid (N1 ≤ W.heap.size ∧ z.heap.size ≤ W.heap.size ∧ W2.heap.size = W.heap.size + 4 ∧ B5 = W.heap.size + 3) := ⟨hN, hzs, hs2, by omega⟩
  have HB0 := Lib.hid (Below.refl W2.heap.size W2)
  have HW := Lib.hid hW1
  have HW2 := Lib.hid hW2
  have HT := Lib.hid hT
  have IH := Lib.hid ih
  have HY := Lib.hid hY
  have HJ := Lib.hid hJ
  have HJx := Lib.hid hJx
  obtain ⟨post, hpost⟩ := hall
  have HP := Lib.hid hpost
  have HB3 := Lib.hid hB3
  have HB4 := Lib.hid hB4
  clear hW1 o2 o3 o4 hb1 hb2 o5 q2 q3 q4 hbw hT ih hY hJ hJx hpost hJp hz hW2 hB3 hB4 hB5 hs1 hs2 hzs hN
  change CallsIn Fence.wide n Try.prog 36 #[.agg #[.int .i64 d.kind, .int .i64 d.fn, .int .i64 d.axis, .string d.name, .slice d.np d.nums.length d.nc, .slice d.kp d.n d.kc], .func (.yield l) #[] #[]] W _
  refine callsIn_of_wp_marks Try.func36 rfl trivial ?_ rfl
  simp only [Try.ntmps36, List.size_toArray, List.length_cons, List.length_nil, Nat.reduceAdd, Nat.reduceSub, Array.replicate_succ, Array.replicate_zero, List.push_toArray, List.append_toArray, List.nil_append, List.cons_append]
  gi_wp2
  rw [HW.out, ← HB4.out, ← HB3.out]
  clear HW
  refine ⟨trivial, (fun h => by cases h), (callsIn_wide.2 (Backward_any d.kp d.n d.kc W1)).mono ?_⟩
  rintro e1 w1 ⟨rfl, rfl⟩
  rw [HW2.out, HB5.out]
  clear HB5 HW2
  gi_wp2
  have hN := HN.out
  have hB3 := HB3.out
  have hB4 := HB4.out
  refine wpIn_rangeFunc_L (α := Nat) rfl (enters_of Try.func55 (by kernel_rfl) rfl) HSQ.out
    (Kp := KpS z.heap.size (fun k => N1 ≤ k ∧ k ≠ B4)) (fun h => h.from _ fun k hk => ⟨by omega, by omega⟩) (fun h => h.mono fun k hk => ⟨by omega, by omega⟩)
    (fun h k => h.trans k) ?kb HB0.out (fun _ => rfl)
    (WalkI z N1 l W.heap.size B3 B4 J pre d kids W) (fun c _ X => WalkX z N1 W.heap.size B4 Jx pre (.mk d kids) W c X)
    (WalkI.abides HJ.out hN.1 (by omega) hN.2.1 rfl) (WalkX.abides HJx.out hN.1 (by omega) hN.2.1 rfl) HI0.out
    (fun x a' X => ∃ Bk, W2.heap.size ≤ Bk ∧ Own X Bk 25 [.int .i64 (kids x).d.kind, .int .i64 (kids x).d.fn, .int .i64 (kids x).d.axis, .string (kids x).d.name, .slice (kids x).d.np (kids x).d.nums.length (kids x).d.nc, .slice (kids x).d.kp (kids x).d.n (kids x).d.kc] ∧ a' = { tmps := #[.agg #[.int .i64 d.kind, .int .i64 d.fn, .int .i64 d.axis, .string d.name, .slice d.np d.nums.length d.nc, .slice d.kp d.n d.kc], .func (.yield l) #[] #[], .pointer (some ⟨W.heap.size, 0, none⟩), .pointer (some ⟨B3, 0, none⟩), .pointer (some ⟨B4, 0, none⟩), undef, .pointer (some ⟨Bk, 0, none⟩), .pointer (some ⟨W.heap.size, 5, none⟩), .slice d.kp d.n d.kc, .func (.func 55) #[] #[.pointer (some ⟨B5, 0, none⟩)], .int .i64 (x : Int), .agg #[.int .i64 (kids x).d.kind, .int .i64 (kids x).d.fn, .int .i64 (kids x).d.axis, .string (kids x).d.name, .slice (kids x).d.np (kids x).d.nums.length (kids x).d.nc, .slice (kids x).d.kp (kids x).d.n (kids x).d.kc], undef, undef, undef, undef, undef, undef, undef], defers := [] }) ?ax ?assign ?body ?done ?stop
  case kb =>
    intro V o o' hl ho
    have hlt := (Array.getElem?_eq_some_iff.1 hl).1
    exact KpS.grown (grownBy_putObj' _ _ _) (by omega) fun r e => by cases e; exact ⟨by omega, fun h => by omega⟩
  case ax =>
    rintro x a' X o o' ⟨Bk, hBk, ho, e⟩ hl hc
    refine ⟨Bk, hBk, ho.grown (grownBy_putObj' _ _ _) fun e => ?_, e⟩
    cases e
    obtain ⟨r, h'⟩ := ho
    rw [h'] at hl
    cases hl
    cases hc
  case assign =>
    intro l' ks x X K hI hK
    have HK := Lib.hid hK
    have HI := Lib.hid hI
    clear hK hI hN hB3 hB4
    gi_wp2
    have hN := HN.out
    have hI := HI.out
    have hsz := hI.sz
    exact HK.out _ _ (KpS.of (below_alloc _ _) (by omega)) ((WalkI.abides HJ.out hN.1 (Nat.le_refl _) hN.2.1 rfl).below hI (below_alloc _ _)) ⟨X.heap.size, by omega, Own.made X _ [.int .i64 (kids x).d.kind, .int .i64 (kids x).d.fn, .int .i64 (kids x).d.axis, .string (kids x).d.name, .slice (kids x).d.np (kids x).d.nums.length (kids x).d.nc, .slice (kids x).d.kp (kids x).d.n (kids x).d.kc] _ rfl, rfl⟩
  case body =>
    rintro l' ks x a' X rfl ⟨r, hr⟩ hI ⟨Bk, hBk, hoK, rfl⟩ hmap
    obtain ⟨hx, hpost'⟩ := walk_all HP.out hmap
    have hsz := hI.sz
    have HC := Lib.hid (IH.out x (n - 1 - 1 - 1) _ X (HT.out.kid hx).2 hI.low (by omega) hI.come hpost')
    have h30 := hI.o3.cell (i := 0) rfl
    have h0 := hoK.cell (i := 0) rfl
    have h1 := hoK.cell (i := 1) rfl
    have h2 := hoK.cell (i := 2) rfl
    have h3 := hoK.cell (i := 3) rfl
    have h4 := hoK.cell (i := 4) rfl
    have h5 := hoK.cell (i := 5) rfl
    have HI := Lib.hid hI
    have HM := Lib.hid hmap
    clear hI hmap hr hoK hN hB3 hB4 hBk hpost' hx hsz
    gi_wp2
    refine ⟨trivial, (fun h => by cases h), (CallsIn.inRound _ HC.out).mono ?_⟩
    rintro e1 V ⟨⟨rfl, hJ1⟩ | ⟨rfl, q, hq0, hq1, hJ1⟩, hk1⟩
    · have hN := HN.out
      have hB3 := HB3.out
      have hB4 := HB4.out
      have hI := HI.out
      have HV : Hid (KpS z.heap.size (fun k => N1 ≤ k ∧ k ≠ B4) X V ∧ WalkI z N1 l W.heap.size B3 B4 J pre d kids W (ks ++ [x]) V) := by
        refine ⟨hk1.mono fun k hk => hk.1, ?_, hI.low.trans hk1.below, hI.kp.trans hk1, hk1.own hI.o2 hN.1 (by decide), hk1.own hI.o3 (by omega) (by decide), ?_, Nat.le_trans hI.sz hk1.below.size, hI.e3, hI.e4⟩
        · rw [List.map_append, List.flatten_append]
          simpa [List.append_assoc] using hJ1
        · obtain ⟨v, hv⟩ := hI.o4
          exact ⟨v, hk1.own hv (by omega) (by decide)⟩
      clear hN hB3 hB4 hI hJ1 hk1 h30 h0 h1 h2 h3 h4 h5
      gi_wp2
      exact HV.out
    · have hN := HN.out
      have hB3 := HB3.out
      have hB4 := HB4.out
      have hI := HI.out
      obtain ⟨v, hv⟩ := hI.o4
      have hv1 := hk1.own hv (by omega) (by decide)
      have hc4 := hv1.cell (i := 0) rfl
      have hf4 := hv1.frozen 0
      have HV : Hid (KpS z.heap.size (fun k => N1 ≤ k ∧ k ≠ B4) X (V.setCell ⟨B4, 0, none⟩ (.bool false)) ∧ WalkX z N1 W.heap.size B4 Jx pre (.mk d kids) W .ret (V.setCell ⟨B4, 0, none⟩ (.bool false))) := by
        have hs := grownBy_setCell' V B4 (.bool false)
        have hzV := (hI.low.trans hk1.below).size
        have hVs := hs.size
        refine ⟨(hk1.mono fun k hk => hk.1).trans (KpS.grown hs hzV fun r e => by cases e; exact ⟨by omega, fun h => (h.2 rfl).elim⟩), rfl, ⟨_, ?_, walk_pre HM.out hq1, ?_⟩, (hI.kp.trans hk1).up hs hN.2.1 fun r e => by cases e; omega, hv1.set (i := 0) (by simp) _, (hI.low.trans hk1.below).grown hs hzV fun r e => by cases e; omega, Nat.le_trans (Nat.le_trans hI.sz hk1.below.size) hVs, hI.e4⟩
        · simp [hq0]
        · rw [← List.append_assoc]
          exact HJx.out.set hJ1 hv1 (by omega) (by decide) _
      clear hN hB3 hB4 hI hJ1 hk1 h30 h0 h1 h2 h3 h4 h5 hv hv1
      gi_wp2
      exact HV.out
  case done =>
    intro D X hD hI hK
    have hmap := walk_last HP.out
    obtain ⟨fn, tmps, assign, body, hy, hR⟩ := HY.out (n - 1) _ (.mk d kids) X hI.come hmap
    change (Instr.yield l #[.agg #[.int .i64 d.kind, .int .i64 d.fn, .int .i64 d.axis, .string d.name, .slice d.np d.nums.length d.nc, .slice d.kp d.n d.kc]]).run Try.prog X = _ at hy
    have h30 := hI.o3.cell (i := 0) rfl
    have h0 := hI.o2.cell (i := 0) rfl
    have h1 := hI.o2.cell (i := 1) rfl
    have h2 := hI.o2.cell (i := 2) rfl
    have h3 := hI.o2.cell (i := 3) rfl
    have h4 := hI.o2.cell (i := 4) rfl
    have h5 := hI.o2.cell (i := 5) rfl
    have HI := Lib.hid hI
    have HR := Lib.hid hR
    have HK := Lib.hid hK
    clear hI hmap hN hB3 hB4 hR hK
    gi_wp2
    refine ⟨(fun h => by cases h), HR.out.mono ?_⟩
    have fin : ∀ (V : World) (b : Bool), KpS z.heap.size (fun k => N1 ≤ k) X V → (∃ v, Own V B4 4 [v]) ∧
        (V.setCell ⟨B4, 0, none⟩ (.bool b)).heap[D]? = some (.deferred (some [])) ∧ ((V.setCell ⟨B4, 0, none⟩ (.bool b)).putObj D (.deferred none)).cell? ⟨B4, 0, none⟩ = some (.bool b) ∧ KpS z.heap.size (fun k => N1 ≤ k) W ((V.setCell ⟨B4, 0, none⟩ (.bool b)).putObj D (.deferred none)) ∧
        ∀ (K : List TV → World → Prop) s, AbidesT N1 K → K s V → K s ((V.setCell ⟨B4, 0, none⟩ (.bool b)).putObj D (.deferred none)) := by
      intro V b hk
      have hN := HN.out
      have hB4 := HB4.out
      have hI := HI.out
      obtain ⟨v, hv⟩ := hI.o4
      have hv1 := hk.own hv (by omega) (by decide)
      have hD1 := hk.same D _ (by omega) HK.out (noTexts_other rfl)
      have hD2 := (Below.heap_setCell V ⟨B4, 0, none⟩ (.bool b) D (by show D ≠ B4; omega)).trans hD1
      have hv2 := (hv1.set (i := 0) (by simp) (.bool b)).grown (grownBy_putObj' _ D (.deferred none)) (fun e => by cases e; omega)
      refine ⟨⟨v, hv1⟩, hD2, hv2.cell (i := 0) rfl, ((hI.kp.trans hk).up (grownBy_setCell' V B4 (.bool b)) hN.2.1 fun r e => by cases e; omega).up (grownBy_putObj' _ D (.deferred none)) hN.2.1 fun r e => by cases e; omega, fun K s hK hs => ?_⟩
      exact hK.put (.deferred none) (hK.set hs hv1 (by omega) (by decide) (.bool b)) (by omega) hD2 rfl
    rintro e1 V ⟨⟨rfl, hJ1⟩ | ⟨rfl, hJ1⟩, hk1⟩
    · obtain ⟨⟨v, hv⟩, hD2, hc, hkp, hab⟩ := fin V true hk1
      have hc4 := hv.cell (i := 0) rfl
      have hf4 := hv.frozen 0
      have HV : Hid (J (pre ++ stepsT (.mk d kids)) ((V.setCell ⟨B4, 0, none⟩ (.bool true)).putObj D (.deferred none)) ∧ KpS z.heap.size (fun k => N1 ≤ k) W ((V.setCell ⟨B4, 0, none⟩ (.bool true)).putObj D (.deferred none))) := by
        refine ⟨?_, hkp⟩
        rw [stepsT_mk, ← List.append_assoc]
        exact hab J _ HJ.out hJ1
      have HD2 := Lib.hid hD2
      have HCc := Lib.hid hc
      clear fin hv hD2 hc hkp hab hJ1 hk1 h30 h0 h1 h2 h3 h4 h5 hy
      gi_wp2
      refine ⟨by simp, .inl ⟨_, _, rfl, run_takeDeferred HD2.out, .bool true, ?_, .inl ⟨rfl, HV.out.1⟩, HV.out.2⟩⟩
      have hc := HCc.out
      simp [results, Try.f36, go_sem, hc]
    · obtain ⟨⟨v, hv⟩, hD2, hc, hkp, hab⟩ := fin V false hk1
      have hc4 := hv.cell (i := 0) rfl
      have hf4 := hv.frozen 0
      have HV : Hid ((∃ q, q ≠ [] ∧ q <+: stepsT (.mk d kids) ∧ Jx (pre ++ q) ((V.setCell ⟨B4, 0, none⟩ (.bool false)).putObj D (.deferred none))) ∧ KpS z.heap.size (fun k => N1 ≤ k) W ((V.setCell ⟨B4, 0, none⟩ (.bool false)).putObj D (.deferred none))) := by
        refine ⟨⟨stepsT (.mk d kids), by simp [stepsT_mk], List.prefix_refl _, ?_⟩, hkp⟩
        rw [stepsT_mk, ← List.append_assoc]
        exact hab Jx _ HJx.out hJ1
      have HD2 := Lib.hid hD2
      have HCc := Lib.hid hc
      clear fin hv hD2 hc hkp hab hJ1 hk1 h30 h0 h1 h2 h3 h4 h5 hy
      gi_wp2
      refine ⟨by simp, .inl ⟨_, _, rfl, run_takeDeferred HD2.out, .bool false, ?_, .inr ⟨rfl, HV.out.1⟩, HV.out.2⟩⟩
      have hc := HCc.out
      simp [results, Try.f36, go_sem, hc]
  case stop =>
    rintro D c ks X hD hne hks ⟨rfl, ⟨q, hq0, hq1, hJ1⟩, hkp, ho, hlow, hsz⟩ hK
    have hc := (ho.grown (grownBy_putObj' X D (.deferred none)) (fun e => by cases e; omega)).cell (i := 0) rfl
    have HV : Hid ((∃ q, q ≠ [] ∧ q <+: stepsT (.mk d kids) ∧ Jx (pre ++ q) (X.putObj D (.deferred none))) ∧ KpS z.heap.size (fun k => N1 ≤ k) W (X.putObj D (.deferred none))) :=
      ⟨⟨q, hq0, hq1, HJx.out.put _ hJ1 (by omega) hK rfl⟩, hkp.up (grownBy_putObj' X D (.deferred none)) hN.2.1 fun r e => by cases e; omega⟩
    have HK := Lib.hid hK
    have HCc := Lib.hid hc
    clear hJ1 hkp ho hlow hsz hK hc hN hB3 hB4 hD hks hne
    gi_wp2
    refine ⟨by simp, .inl ⟨_, _, rfl, run_takeDeferred HK.out, .bool false, ?_, .inr ⟨rfl, HV.out.1⟩, HV.out.2⟩⟩
    have hc := HCc.out
    simp [results, Try.f36, go_sem, hc]
theorem walk_any (z : World) (N1 l : Nat) (J Jx : List TV → World → Prop) (all : List TV) (hJ : AbidesT N1 J) (hJx : AbidesT N1 Jx)
    (hY : ∀ m pre x W, J pre W → pre ++ [x] = all.take (pre.length + 1) → YieldAt Fence.wide m Try.prog l #[.agg #[.int .i64 x.d.kind, .int .i64 x.d.fn, .int .i64 x.d.axis, .string x.d.name, .slice x.d.np x.d.nums.length x.d.nc, .slice x.d.kp x.d.n x.d.kc]] W fun e W' =>
      ((e = .returned (.bool true) ∧ J (pre ++ [x]) W') ∨ (e = .returned (.bool false) ∧ Jx (pre ++ [x]) W')) ∧ KpS z.heap.size (fun k => N1 ≤ k) W W') : ∀ t : TV, Walks z N1 l J Jx all t
  | .nil => fun _ _ _ h => h.no
  | .mk d kids => walk_step z N1 l J Jx all hJ hJx hY d kids fun i => walk_any z N1 l J Jx all hJ hJx hY (kids i)
end Go.Proofs.Ytjehgcmcphgofaa
