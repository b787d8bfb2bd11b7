/- What is left of a box without another one: box.Minus. No condition beyond what each says. -/
import Derived.Test.YthkfjdhakbjllaaBox22
import Derived.StillTailTactics
namespace Go.Proofs.Ythkfjdhakbjllaa
open Go.RowKit Go.Shelf
set_option linter.unusedVariables false
set_option linter.unusedSimpArgs false

theorem info_box : (Try.prog.info? 67).map (fun i => (i.zero, i.size, i.bytes)) = some (some (.agg #[.slice none 0 0, .slice none 0 0]), 2, 48) := by kernel_rfl
/-- 'append(boxes, more...)' -/
theorem wp_append_boxes {w : World} {o : Oper} {a : Act} {K : Act → World → Prop} {Q : Exit → Act → World → Prop} (s x : Operand)
    (ho : o.op = .call { callee := .builtin .append, args := #[s, x], argTypes := #[81, 81] })
    (base : Nat) (v : Value) (n : Nat) (xs : List Value) (hs : a.eval s = v) (hown : w.ownsRow base 67 2 v n xs)
    (g m c : Nat) (news : List Value) (hx : a.eval x = .slice (some ⟨g, 0, none⟩) m c) (hl : news.length = m * 2) (hnews : Own w g 67 news) (h1 : ∀ u ∈ news, u.oneCell' = true) (hbig : n + m ≤ 1000000) (hbase : base ≤ w.heap.size)
    (h : ∀ v' w', w'.ownsRow base 67 2 v' (n + m) (xs ++ news) → w.grownBy w' v.ownBlock → K (a.put o.dst v') w') : o.wp Try.prog a w K Q := by
  obtain ⟨i, hi, hz, hsize, hbytes⟩ := info_parts info_box
  refine wp_append_own w s x 81 ho base 67 i _ 2 48 Try.underlying81 hi hz hsize hbytes rfl (by decide) v n xs hs hown ⟨g, 0, none⟩ m c news hx hl ?_ h1 (by unfold maxLen; omega) (by omega) hbase fun v' w' h2 h3 _ => h v' w' h2 h3
  intro j u hu
  rw [Addr.add_lit, Nat.zero_add]
  exact hnews.cell hu

/-- numbers that are not large -/
def NL (xs : List Int) : Prop := ∀ x ∈ xs, -1000 ≤ x ∧ x ≤ 1000
theorem NL.i64 {xs : List Int} (h : NL xs) : ∀ x ∈ xs, I64 x := fun x hx => by have := h x hx; unfold I64; omega
theorem NL.nth {xs : List Int} (h : NL xs) {k : Nat} (hk : k < xs.length) : -1000 ≤ nth xs k ∧ nth xs k ≤ 1000 := h _ (nth_mem hk)
theorem NL.of_nth {xs : List Int} (h : ∀ k, k < xs.length → -1000 ≤ Go.Proofs.Ythkfjdhakbjllaa.nth xs k ∧ Go.Proofs.Ythkfjdhakbjllaa.nth xs k ≤ 1000) : NL xs := fun x hx => by
  obtain ⟨k, hk, rfl⟩ := List.mem_iff_getElem.1 hx
  have := h k hk
  have e : Go.Proofs.Ythkfjdhakbjllaa.nth xs k = xs[k] := by simp [Go.Proofs.Ythkfjdhakbjllaa.nth, hk]
  rw [e] at this
  exact this
theorem NL.app {c a : List Int} (h : NL c) (k : NL a) (n m : Nat) : NL (c.take n ++ a.drop m) := fun x hx => by
  rcases List.mem_append.1 hx with hx | hx
  · exact h x (List.mem_of_mem_take hx)
  · exact k x (List.mem_of_mem_drop hx)
theorem NL.mid {c a : List Int} (h : NL c) (k : NL a) (n m : Nat) {y : Int} (hy : -1000 ≤ y ∧ y ≤ 1000) : NL (c.take n ++ y :: a.drop m) := fun x hx => by
  rcases List.mem_append.1 hx with hx | hx
  · exact h x (List.mem_of_mem_take hx)
  · rcases List.mem_cons.1 hx with hx | hx
    · rw [hx]; exact hy
    · exact k x (List.mem_of_mem_drop hx)
theorem NL.vol {lo hi : List Int} (h : NL lo) (k : NL hi) (hl : lo.length ≤ hi.length) (h5 : lo.length ≤ 5) : FullX lo hi → vol lo hi lo.length ≤ 9000000000000000000 := vol_small h5 fun j hj => by
  have h1 := h.nth hj
  have h2 := k.nth (k := j) (by omega)
  omega
theorem near_NL {lo hi : List Int} (hl : lo.length = hi.length) (h : ∀ j, j < lo.length → NearX lo hi j) : NL lo ∧ NL hi := by
  refine ⟨NL.of_nth fun k hk => ?_, NL.of_nth fun k hk => ?_⟩
  · have := h k hk
    unfold NearX at this
    omega
  · have := h k (by omega)
    unfold NearX at this
    omega
theorem meet_NL {alo ahi blo bhi : List Int} (ha : alo.length = ahi.length) (hb : blo.length = bhi.length) (hm : Meets alo ahi blo bhi) (h1 : NL alo) (h2 : NL ahi) : NL (meetLo alo blo) ∧ NL (meetHi ahi bhi) := by
  have hc := cuts_range ha hb hm
  refine ⟨NL.of_nth fun k hk => ?_, NL.of_nth fun k hk => ?_⟩
  · rw [meetLo_len hm.1] at hk
    have := hc k hk
    have := h1.nth hk
    have := h2.nth (k := k) (by omega)
    omega
  · rw [meetHi_len (by have := hm.1; omega)] at hk
    have := hc k (by omega)
    have := h1.nth (k := k) (by omega)
    have := h2.nth hk
    omega
theorem Meet_is (p q p' q' : Option Addr) (c f c' f' : Nat) (alo ahi blo bhi : List Int) (n m : Nat) (e1 : alo.length = n) (e2 : ahi.length = n) (e3 : blo.length = m) (e4 : bhi.length = m) (hl : n ≤ 1000000) (hv : n = m → FullX (meetLo alo blo) (meetHi ahi bhi) → vol (meetLo alo blo) (meetHi ahi bhi) (meetLo alo blo).length ≤ 9000000000000000000)
    (w : World) (h1 : Ints w p alo) (h2 : Ints w q ahi) (h3 : Ints w p' blo) (h4 : Ints w q' bhi) :
    Calls Try.prog 54 #[.agg #[.slice p n c, .slice q n f], .agg #[.slice p' m c', .slice q' m f']] w (MeetRet alo ahi blo bhi w) := by
  subst e1 e3
  by_cases h : alo.length = blo.length
  · have := Meet_any p q p' q' c f c' f' alo ahi blo bhi hl e2.symm e4.symm (hv h) w h1 h2 h3 h4
    rw [e2, e4] at this
    exact this
  · have := Meet_len p q p' q' c f c' f' alo ahi blo bhi h w h1 h2 h3 h4
    rw [e2, e4] at this
    exact this

def MinusRet (alo ahi blo bhi : List Int) (w : World) (e : Ending) (w' : World) : Prop :=
  (∃ q cap bs, e = .returned (.slice q bs.length cap) ∧ New w.heap.size w' q 67 (flatB bs) ∧ NewsB w.heap.size w' bs ∧ bs.map BoxV.bx = minusX alo ahi blo bhi ∧ (Meets alo ahi blo bhi → w'.ownsRow w.heap.size 67 2 (.slice q bs.length cap) bs.length (flatB bs))) ∧ Below w.heap.size w w'

theorem Clone_is (a : Option Addr) (c : Nat) (xs : List Int) (n : Nat) (w : World) (hn : xs.length = n) (h : Ints w a xs) (hl : n ≤ 1000000) :
    Calls Try.prog 97 #[.slice a n c] w fun e w' => (∃ p c', e = .returned (.slice p n c') ∧ New w.heap.size w' p 3 (xs.map (.int .i64))) ∧ Below w.heap.size w w' := by
  subst hn
  exact Clone_any a c xs w h hl
theorem flat_if {p1 p2 : Option Addr} {c1 c2 n : Nat} {xs ys : List Int} {d : Bool} (h1 : xs.length = n) (h2 : ys.length = n) : (if d then [] else [.slice p1 n c1, .slice p2 n c2]) = flatB (if d then [] else [⟨p1, c1, xs, p2, c2, ys⟩]) := by
  cases d <;> simp [flatB, BoxV.vals, h1, h2]

theorem minus_no_ret {alo ahi blo bhi : List Int} {w w4 : World} {p1 p2 : Option Addr} {c1 c2 k g cap B1 B2 : Nat} {d : Bool} (hm : ¬ Meets alo ahi blo bhi) (hd : (countX alo ahi == 0) = d)
    (hl : (flatB (if d then [] else [⟨p1, c1, alo, p2, c2, ahi⟩])).length = k * 2) (ho : Own w4 g 67 (flatB (if d then [] else [⟨p1, c1, alo, p2, c2, ahi⟩])))
    (h1 : New B1 w4 p1 3 (alo.map (.int .i64))) (h2 : New B2 w4 p2 3 (ahi.map (.int .i64))) (hB1 : w.heap.size ≤ B1) (hB2 : w.heap.size ≤ B2) (hg : w.heap.size ≤ g) (hb : Below w.heap.size w w4) :
    MinusRet alo ahi blo bhi w (.returned (.slice (some ⟨g, 0, none⟩) k cap)) w4 := by
  rw [flatB_len] at hl
  have hk : k = (if d then [] else [(⟨p1, c1, alo, p2, c2, ahi⟩ : BoxV)]).length := by omega
  have hf := full_count hd
  refine ⟨⟨some ⟨g, 0, none⟩, cap, if d then [] else [⟨p1, c1, alo, p2, c2, ahi⟩], by rw [hk], .inr ⟨g, rfl, hg, ho⟩, ?_, ?_, fun h => (hm h).elim⟩, hb⟩
  · intro x hx
    cases d with
    | true => simp at hx
    | false =>
      have hx : x = ⟨p1, c1, alo, p2, c2, ahi⟩ := by simpa using hx
      subst hx
      exact ⟨h1.mono hB1, h2.mono hB2⟩
  · unfold minusX
    unfold fullB at hf
    cases d with
    | true => 
      have hf : ¬ FullX alo ahi := by simpa using hf
      rw [if_pos hf]
      rfl
    | false =>
      have hf : FullX alo ahi := by simpa using hf
      rw [if_neg (not_not_intro hf), if_neg hm]
      rfl

set_option maxRecDepth 100000 in
set_option maxHeartbeats 4000000 in
theorem Minus_no (p q p' q' : Option Addr) (c f c' f' : Nat) (alo ahi blo bhi : List Int) (n m : Nat) (e1 : alo.length = n) (e2 : ahi.length = n) (e3 : blo.length = m) (e4 : bhi.length = m) (h5 : n ≤ 5) (n1 : NL alo) (n2 : NL ahi) (hm : ¬ Meets alo ahi blo bhi)
    (w : World) (h1 : Ints w p alo) (h2 : Ints w q ahi) (h3 : Ints w p' blo) (h4 : Ints w q' bhi) :
    Calls Try.prog 61 #[.agg #[.slice p n c, .slice q n f], .agg #[.slice p' m c', .slice q' m f']] w (MinusRet alo ahi blo bhi w) := by
  obtain ⟨W, hW, hz, hbW, OA, OB⟩ : ∃ W, (w.alloc (.cells #[.slice p n c, .slice q n f] 67)).alloc (.cells #[.slice p' m c', .slice q' m f'] 67) = W ∧ W.heap.size = w.heap.size + 2 ∧ Below w.heap.size w W ∧ Own W w.heap.size 67 [.slice p n c, .slice q n f] ∧ Own W (w.heap.size + 1) 67 [.slice p' m c', .slice q' m f'] := by
    have b1 := below_alloc w (.cells #[.slice p n c, .slice q n f] 67)
    have OA := Own.made w w.heap.size [.slice p n c, .slice q n f] 67 rfl
    have b2 := below_alloc (w.alloc (.cells #[.slice p n c, .slice q n f] 67)) (.cells #[.slice p' m c', .slice q' m f'] 67)
    exact ⟨_, rfl, by simp, below_t b1 b2, OA.keep b2 OA.lt, Own.made _ (w.heap.size + 1) [.slice p' m c', .slice q' m f'] 67 (by simp)⟩
  have HW := Lib.hid hW
  have HM := Lib.hid hm
  have E1 := Lib.hid e1
  have E2 := Lib.hid e2
  have E3 := Lib.hid e3
  have E4 := Lib.hid e4
  have i1 := Lib.hid (h1.keep hbW)
  have i2 := Lib.hid (h2.keep hbW)
  have i3 := Lib.hid (h3.keep hbW)
  have i4 := Lib.hid (h4.keep hbW)
  have hV : Hid (FullX alo ahi → vol alo ahi alo.length ≤ 9000000000000000000) := n1.vol n2 (by omega) (by omega)
  have hV2 : Hid (n = m → FullX (meetLo alo blo) (meetHi ahi bhi) → vol (meetLo alo blo) (meetHi ahi bhi) (meetLo alo blo).length ≤ 9000000000000000000) := fun hnm hf => (hm ⟨by omega, hf⟩).elim
  have q0 := OA.cell (i := 0) rfl
  have q1 := OA.cell (i := 1) rfl
  have r0 := OB.cell (i := 0) rfl
  have r1 := OB.cell (i := 1) rfl
  clear hW hm e1 e2 e3 e4
  go_enter Try.func61, Try.ntmps61
  go_wp2_with fail
  rw [HW.out]
  refine (Meet_is p q p' q' c f c' f' alo ahi blo bhi n m E1.out E2.out E3.out E4.out (by omega) hV2.out W i1.out i2.out i3.out i4.out).mono ?_
  rintro e5 w5 ⟨hret, hb5⟩
  rw [if_neg HM.out] at hret
  subst hret
  have OA5 := OA.keep hb5 OA.lt
  have hb := below_t hbW hb5
  have s0 := OA5.cell (i := 0) rfl
  have s1 := OA5.cell (i := 1) rfl
  have hlt := OA5.lt
  clear q0 q1 r0 r1 OA OB HW hz
  go_wp2_with fail
  have b6 := below_alloc w5 (.cells #[.slice none 0 0, .slice none 0 0] 67)
  obtain ⟨W6, hW6⟩ : ∃ W6, w5.alloc (.cells #[.slice none 0 0, .slice none 0 0] 67) = W6 := ⟨_, rfl⟩
  rw [hW6] at b6
  have OA6 := OA5.keep b6 hlt
  have hb6 := below_t hb b6
  rw [hW6]
  clear hW6 s0 s1 OA5 hlt b6 hb hb5 hbW
  have hKS : Keeps (fun w' => (w.heap.size < w'.heap.size ∧ w'.cell? ⟨w.heap.size, 0, none⟩ = some (.slice p n c)) ∧ (w.heap.size < w'.heap.size ∧ w'.cell? ⟨w.heap.size, 1, none⟩ = some (.slice q n f)) ∧ Below w.heap.size w w') := (keeps_cell _ _ _).and ((keeps_cell _ _ _).and (keeps_below w))
  have hKB : KeepsB (w.heap.size + 1) (fun w' => (w.heap.size < w'.heap.size ∧ w'.cell? ⟨w.heap.size, 0, none⟩ = some (.slice p n c)) ∧ (w.heap.size < w'.heap.size ∧ w'.cell? ⟨w.heap.size, 1, none⟩ = some (.slice q n f)) ∧ Below w.heap.size w w') := (keepsB_cell _ _ (by omega)).and ((keepsB_cell _ _ (by omega)).and (keepsB_below (by omega)))
  have hS : (fun w' => (w.heap.size < w'.heap.size ∧ w'.cell? ⟨w.heap.size, 0, none⟩ = some (.slice p n c)) ∧ (w.heap.size < w'.heap.size ∧ w'.cell? ⟨w.heap.size, 1, none⟩ = some (.slice q n f)) ∧ Below w.heap.size w w') W6 := ⟨⟨OA6.lt, OA6.cell (i := 0) rfl⟩, ⟨OA6.lt, OA6.cell (i := 1) rfl⟩, hb6⟩
  have h1 := Lib.hid h1
  have h2 := Lib.hid h2
  obtain ⟨d, hd⟩ : ∃ d, (countX alo ahi == 0) = d := ⟨_, rfl⟩
  have HD := Lib.hid hd
  have hl6 := OA6.lt
  clear hd i1 i2 i3 i4 OA6
  refine wp_region_noPanic ?_
  refine wp_region_held_drew (S := (fun w' => (w.heap.size < w'.heap.size ∧ w'.cell? ⟨w.heap.size, 0, none⟩ = some (.slice p n c)) ∧ (w.heap.size < w'.heap.size ∧ w'.cell? ⟨w.heap.size, 1, none⟩ = some (.slice q n f)) ∧ Below w.heap.size w w')) (by kernel_rfl) ?_ (fun hHeld => ?_)
  · (try dsimp only); first | exact hKS _ _ (by first | exact hHeld | exact hS) (by first | assumption | (go_grown; done) | (refine from_drew ?_; go_grown; done)) | exact hKB _ _ hHeld (hb4.mono (by have := hb1.size; have := hb2.size; simp at *; omega))
  refine takeH 0 (some 18) (v := ?_) rfl rfl (by kernel_rfl) (by kernel_rfl) (by kernel_rfl) (by rfl) ?_ (by exact hHeld) ?_
  rotate_left
  · intro w hSw; (try dsimp only at hSw); go_simp; try (with_reducible rfl)
  try simp only [Act.put, List.setIfInBounds_toArray, List.set_cons_zero, List.set_cons_succ]
  refine takeH 1 (some 19) (v := ?_) rfl rfl (by kernel_rfl) (by kernel_rfl) (by kernel_rfl) (by rfl) ?_ (by exact hHeld) ?_
  rotate_left
  · intro w hSw; (try dsimp only at hSw); go_simp; try (with_reducible rfl)
  try simp only [Act.put, List.setIfInBounds_toArray, List.set_cons_zero, List.set_cons_succ]
  refine takeH 3 (some 21) (v := ?_) rfl rfl (by kernel_rfl) (by kernel_rfl) (by kernel_rfl) (by rfl) ?_ (by exact hHeld) ?_
  rotate_left
  · intro w hSw; (try dsimp only at hSw); go_simp; try (with_reducible rfl)
  try simp only [Act.put, List.setIfInBounds_toArray, List.set_cons_zero, List.set_cons_succ]
  refine takeH 4 (some 22) (v := ?_) rfl rfl (by kernel_rfl) (by kernel_rfl) (by kernel_rfl) (by rfl) ?_ (by exact hHeld) ?_
  rotate_left
  · intro w hSw; (try dsimp only at hSw); go_simp; try (with_reducible rfl)
  try simp only [Act.put, List.setIfInBounds_toArray, List.set_cons_zero, List.set_cons_succ]
  refine wpAnyH_ready (rs := [2]) (by kernel_rfl) (by simp) ?_
  refine stepH 2 rfl (by rfl) (fun K hK => ?_) ?_
  · go_simp
    ((with_reducible refine (Clone_is p c alo n _ E1.out ?_ (by omega)).mono ?_); (exact h1.out.keep hHeld.2.2); rintro e1 w1 ⟨⟨p1, c1, rfl, hn1⟩, hb1⟩)
    refine hK.out _ _ ?_ (fun hNew => ?_)
    · (try dsimp only); first | exact hKS _ _ (by first | exact hHeld | exact hS) (by first | assumption | (go_grown; done) | (refine from_drew ?_; go_grown; done)) | exact hKB _ _ hHeld (hb4.mono (by have := hb1.size; have := hb2.size; simp at *; omega))
    clear hK K hHeld
    have hHeld := hNew
    clear hNew
    try dsimp only at hHeld
    try simp only [Act.put, List.setIfInBounds_toArray, List.set_cons_zero, List.set_cons_succ]
    refine wpAnyH_ready (rs := [5]) (by kernel_rfl) (by simp) ?_
    refine stepH 5 rfl (by rfl) (fun K hK => ?_) ?_
    · go_simp
      ((with_reducible refine (Clone_is q f ahi n _ E2.out ?_ (by omega)).mono ?_); (exact h2.out.keep hHeld.2.2); rintro e2 w2 ⟨⟨p2, c2, rfl, hn2⟩, hb2⟩)
      refine hK.out _ _ ?_ (fun hNew => ?_)
      · (try dsimp only); first | exact hKS _ _ (by first | exact hHeld | exact hS) (by first | assumption | (go_grown; done) | (refine from_drew ?_; go_grown; done)) | exact hKB _ _ hHeld (hb4.mono (by have := hb1.size; have := hb2.size; simp at *; omega))
      clear hK K hHeld
      have hHeld := hNew
      clear hNew
      try dsimp only at hHeld
      try simp only [Act.put, List.setIfInBounds_toArray, List.set_cons_zero, List.set_cons_succ]
      refine takeH 6 (some 24) (v := ?_) rfl rfl (by kernel_rfl) (by kernel_rfl) (by kernel_rfl) (by rfl) ?_ (by exact hHeld) ?_
      rotate_left
      · intro w hSw; (try dsimp only at hSw); go_simp; try (with_reducible rfl)
      try simp only [Act.put, List.setIfInBounds_toArray, List.set_cons_zero, List.set_cons_succ]
      refine wpAnyH_ready (rs := [7]) (by kernel_rfl) (by simp) ?_
      refine stepH 7 rfl (by rfl) (fun K hK => ?_) ?_
      · go_simp
        refine hK.out _ _ ?_ (fun hNew => ?_)
        · (try dsimp only); first | exact hKS _ _ (by first | exact hHeld | exact hS) (by first | assumption | (go_grown; done) | (refine from_drew ?_; go_grown; done)) | exact hKB _ _ hHeld (hb4.mono (by have := hb1.size; have := hb2.size; simp at *; omega))
        clear hK K hHeld
        have hHeld := hNew
        clear hNew
        try dsimp only at hHeld
        try simp only [Act.put, List.setIfInBounds_toArray, List.set_cons_zero, List.set_cons_succ]
        refine wpAnyH_ready (rs := [8]) (by kernel_rfl) (by simp) ?_
        refine stepH 8 rfl (by rfl) (fun K hK => ?_) ?_
        · go_simp
          ((with_reducible refine (Filled1 w2.heap.size p1 p2 n c1 n c2 d (flatB (if d then [] else [⟨p1, c1, alo, p2, c2, ahi⟩])) (flat_if E1.out E2.out) _ (Own.made w2 _ [.slice p1 n c1, .slice p2 n c2] _ rfl) ?_).mono ?_); (exact asks_box p1 p2 c1 c2 alo ahi n n E1.out.symm E2.out.symm d HD.out (by have := E1.out; have := E2.out; omega) hV.out _ (((hn1.keep' hb2).keep' (below_alloc _ _)).ints h1.out.i64 h1.out.small) ((hn2.keep' (below_alloc _ _)).ints h2.out.i64 h2.out.small)); rintro e4 w4 ⟨⟨k4, cap4, hl4, rfl, ho4⟩, hb4⟩)
          refine hK.out _ _ ?_ (fun hNew => ?_)
          · (try dsimp only); first | exact hKS _ _ (by first | exact hHeld | exact hS) (by first | assumption | (go_grown; done) | (refine from_drew ?_; go_grown; done)) | exact hKB _ _ hHeld (hb4.mono (by have := hb1.size; have := hb2.size; simp at *; omega))
          clear hK K hHeld
          have hHeld := hNew
          clear hNew
          try dsimp only at hHeld
          try simp only [Act.put, List.setIfInBounds_toArray, List.set_cons_zero, List.set_cons_succ]
          refine takeH 9 (some 4) (v := ?_) rfl rfl (by kernel_rfl) (by kernel_rfl) (by kernel_rfl) (by rfl) ?_ (by exact hHeld) ?_
          rotate_left
          · intro w hSw; (try dsimp only at hSw); go_simp; try (with_reducible rfl)
          try simp only [Act.put, List.setIfInBounds_toArray, List.set_cons_zero, List.set_cons_succ]
          refine wpAnyH_done (by kernel_rfl) ?_ _
          refine NoPanic.normal ?_
          have hb24 := (below_alloc w2 (.cells #[.slice p1 n c1, .slice p2 n c2] 67)).trans hb4
          have hret := minus_no_ret HM.out HD.out hl4 ho4 ((hn1.keep' hb2).keep' hb24) (hn2.keep' hb24) (by simp; omega) (by have := hb1.size; simp at this; omega) (by have := hb1.size; have := hb2.size; simp at *; omega) hHeld.2.2 (cap := cap4)
          have HRet := Lib.hid hret
          clear hret ho4 hl4 hn1 hn2 hb1 hb2 hb4 hb24
          go_wp2_with fail
          go_ret
          exact HRet.out
        exact AllReadyH.nil
      exact AllReadyH.nil
    exact AllReadyH.nil
  exact AllReadyH.nil
end Go.Proofs.Ythkfjdhakbjllaa
