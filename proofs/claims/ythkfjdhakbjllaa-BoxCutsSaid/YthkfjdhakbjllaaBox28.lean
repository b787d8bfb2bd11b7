/- What is left of a box without another one, in the reference: where the two do not meet. No condition beyond what each says. -/
import Derived.Test.YthkfjdhakbjllaaBox27
namespace Go.Proofs.Ythkfjdhakbjllaa
open Go.RowKit Go.Shelf
set_option linter.unusedVariables false
set_option linter.unusedSimpArgs false

theorem New.grownQ {B B' n size : Nat} {w w' : World} {p : Option Addr} {v : Value} {vs xs : List Value} (h : New B w p 3 vs) (hr : w.ownsRow B' 65 size v n xs) (hg : w.grownBy w' v.ownBlock) : New B w' p 3 vs := by
  rcases h with h | ⟨g, hp, hB, ho⟩
  · exact .inl h
  · refine .inr ⟨g, hp, hB, ho.grown hg fun e => ?_⟩
    obtain ⟨-, h2⟩ := hr
    rcases h2 with ⟨rfl, -⟩ | ⟨g', cap, cur, rfl, h3, h4, h5⟩
    · cases e
    · cases e
      obtain ⟨r, ho⟩ := ho
      rw [ho] at h4
      simp at h4
theorem NewsB.grownQ {B B' n size : Nat} {a b : World} {bs : List BoxV} {v : Value} {ys : List Value} (h : NewsB B a bs) (hr : a.ownsRow B' 65 size v n ys) (hg : a.grownBy b v.ownBlock) : NewsB B b bs := fun x hx => ⟨(h x hx).1.grownQ hr hg, (h x hx).2.grownQ hr hg⟩
theorem info_refbox : (Try.prog.info? 65).map (fun i => (i.zero, i.size, i.bytes)) = some (some (.agg #[.slice none 0 0, .slice none 0 0]), 2, 48) := by kernel_rfl
/-- 'append(row, x)' of one number -/
theorem append_lone {w : World} {ops : Array Oper} {rest : List Oper} {o : Oper} {a : Act} {Q : Exit → Act → World → Prop} (hgd : o.guard = none) (s x : Operand)
    (ho : o.op = .call { callee := .builtin .append, args := #[s, x], argTypes := #[22, 22] })
    (base : Nat) (v : Value) (n : Nat) (xs : List Value) (hs : a.eval s = v) (hown : w.ownsRow base 3 1 v n xs)
    (b : Nat) (y : Int) (hx : a.eval x = .slice (some ⟨b, 0, none⟩) 1 1) (hb : w.heap[b]? = some (.cells #[.int .i64 y] 3 (0, 0))) (hbig : n ≤ 1000000) (hbase : base ≤ w.heap.size)
    (h : ∀ g cap w', w'.ownsRow base 3 1 (.slice (some ⟨g, 0, none⟩) (n + 1) cap) (n + 1) (xs ++ [.int .i64 y]) → w.grownBy w' v.ownBlock → (v.ownBlock = some g ∨ g = w.heap.size) → wpList Try.prog ops Q rest (a.put o.dst (.slice (some ⟨g, 0, none⟩) (n + 1) cap)) w') : wpList Try.prog ops Q (o :: rest) a w :=
  wpList_plain hgd fun _ hK => wp_append_lone s x ho base v n xs hs hown b y hx hb hbig hbase fun g cap w' h1 h2 h3 => hK _ _ (h g cap w' h1 h2 h3)
/-- 'append(boxes, box)' -/
theorem append_refbox {w : World} {ops : Array Oper} {rest : List Oper} {o : Oper} {a : Act} {Q : Exit → Act → World → Prop} (hgd : o.guard = none) (s x : Operand)
    (ho : o.op = .call { callee := .builtin .append, args := #[s, x], argTypes := #[83, 83] })
    (base : Nat) (v : Value) (n : Nat) (xs : List Value) (hs : a.eval s = v) (hown : w.ownsRow base 65 2 v n xs)
    (g : Nat) (u1 u2 : Value) (hx : a.eval x = .slice (some ⟨g, 0, none⟩) 1 1) (hnews : Own w g 65 [u1, u2]) (h1 : u1.oneCell' = true) (h2 : u2.oneCell' = true) (hbig : n ≤ 1000000) (hbase : base ≤ w.heap.size)
    (h : ∀ v' w', w'.ownsRow base 65 2 v' (n + 1) (xs ++ [u1, u2]) → w.grownBy w' v.ownBlock → wpList Try.prog ops Q rest (a.put o.dst v') w') : wpList Try.prog ops Q (o :: rest) a w := by
  obtain ⟨i, hi, hz, hsize, hbytes⟩ := info_parts info_refbox
  refine wpList_append_own w hgd s x 83 ho base 65 i _ 2 48 Try.underlying83 hi hz hsize hbytes rfl (by decide) v n xs hs hown ⟨g, 0, none⟩ 1 1 [u1, u2] hx rfl ?_ ?_ (by unfold maxLen; omega) (by omega) hbase fun v' w' h2 h3 _ => h v' w' h2 h3
  · intro j u hu
    rw [Addr.add_lit, Nat.zero_add]
    exact hnews.cell hu
  · intro u hu
    simp only [List.mem_cons, List.not_mem_nil, or_false] at hu
    rcases hu with rfl | rfl
    · exact h1
    · exact h2

def RefMinusRet (alo ahi blo bhi : List Int) (w : World) (e : Ending) (w' : World) : Prop :=
  (∃ q cap bs, e = .returned (.slice q bs.length cap) ∧ New w.heap.size w' q 65 (flatB bs) ∧ BoxesI w' bs ∧ bs.map BoxV.bx = minusX alo ahi blo bhi) ∧ Below w.heap.size w w'

set_option maxHeartbeats 2000000 in
theorem RefMinus_empty (p q p' q' : Option Addr) (c f c' f' : Nat) (alo ahi blo bhi : List Int) (n m : Nat) (e1 : alo.length = n) (e2 : ahi.length = n) (e3 : blo.length = m) (e4 : bhi.length = m) (hf : ¬ FullX alo ahi)
    (w : World) (h1 : Ints w p alo) (h2 : Ints w q ahi) :
    Calls Try.prog 62 #[.agg #[.slice p n c, .slice q n f], .agg #[.slice p' m c', .slice q' m f']] w (RefMinusRet alo ahi blo bhi w) := by
  obtain ⟨W, hW, hbW, OA⟩ : ∃ W, (w.alloc (.cells #[.slice p n c, .slice q n f] 65)).alloc (.cells #[.slice p' m c', .slice q' m f'] 65) = W ∧ Below w.heap.size w W ∧ Own W w.heap.size 65 [.slice p n c, .slice q n f] := by
    have b1 := below_alloc w (.cells #[.slice p n c, .slice q n f] 65)
    have OA := Own.made w w.heap.size [.slice p n c, .slice q n f] 65 rfl
    have b2 := below_alloc (w.alloc (.cells #[.slice p n c, .slice q n f] 65)) (.cells #[.slice p' m c', .slice q' m f'] 65)
    exact ⟨_, rfl, below_t b1 b2, OA.keep b2 OA.lt⟩
  have HW := Lib.hid hW
  have HF := Lib.hid hf
  have hE : Hid (Calls Try.prog 94 #[.agg #[.slice p n c, .slice q n f]] W fun e w' => e = .returned (.bool true) ∧ Below W.heap.size W w') := by
    have := RefEmpty_any p q c f alo ahi true (by simpa using hf) (by omega) W (h1.keep hbW) (h2.keep hbW)
    rwa [e1, e2] at this
  have q0 := OA.cell (i := 0) rfl
  have q1 := OA.cell (i := 1) rfl
  clear hW hf e1 e2 e3 e4 OA
  go_enter Try.func62, Try.ntmps62
  go_wp2_with fail
  rw [HW.out]
  refine hE.out.mono ?_
  rintro e5 w5 ⟨rfl, hb5⟩
  have hb := Lib.hid (below_t hbW hb5)
  clear hE HW q0 q1 hb5 hbW
  go_wp2_with fail
  refine bodyPost_ret (v := .slice none 0 0) (by simp [results, Try.results62, go_sem]) rfl ⟨⟨none, 0, [], rfl, .inl rfl, (fun x hx => by simp at hx), ?_⟩, hb.out⟩
  unfold minusX
  rw [if_pos HF.out]
  rfl

set_option maxHeartbeats 2000000 in
theorem RefMinus_no (p q p' q' : Option Addr) (c f c' f' : Nat) (alo ahi blo bhi : List Int) (n m : Nat) (e1 : alo.length = n) (e2 : ahi.length = n) (e3 : blo.length = m) (e4 : bhi.length = m) (hl : n ≤ 1000000) (hf : FullX alo ahi) (hm : ¬ Meets alo ahi blo bhi)
    (w : World) (h1 : Ints w p alo) (h2 : Ints w q ahi) (h3 : Ints w p' blo) (h4 : Ints w q' bhi) :
    Calls Try.prog 62 #[.agg #[.slice p n c, .slice q n f], .agg #[.slice p' m c', .slice q' m f']] w (RefMinusRet alo ahi blo bhi w) := by
  obtain ⟨W, hW, hbW, OA, OB⟩ : ∃ W, (w.alloc (.cells #[.slice p n c, .slice q n f] 65)).alloc (.cells #[.slice p' m c', .slice q' m f'] 65) = W ∧ Below w.heap.size w W ∧ Own W w.heap.size 65 [.slice p n c, .slice q n f] ∧ Own W (w.heap.size + 1) 65 [.slice p' m c', .slice q' m f'] := by
    have b1 := below_alloc w (.cells #[.slice p n c, .slice q n f] 65)
    have OA := Own.made w w.heap.size [.slice p n c, .slice q n f] 65 rfl
    have b2 := below_alloc (w.alloc (.cells #[.slice p n c, .slice q n f] 65)) (.cells #[.slice p' m c', .slice q' m f'] 65)
    exact ⟨_, rfl, below_t b1 b2, OA.keep b2 OA.lt, Own.made _ (w.heap.size + 1) [.slice p' m c', .slice q' m f'] 65 (by simp)⟩
  have HW := Lib.hid hW
  have HF := Lib.hid hf
  have HM := Lib.hid hm
  have hE : Hid (Calls Try.prog 94 #[.agg #[.slice p n c, .slice q n f]] W fun e w' => e = .returned (.bool false) ∧ Below W.heap.size W w') := by
    have := RefEmpty_any p q c f alo ahi false (by simpa using hf) (by omega) W (h1.keep hbW) (h2.keep hbW)
    rwa [e1, e2] at this
  have hX : Hid (∀ w5, Below W.heap.size W w5 → Calls Try.prog 55 #[.agg #[.slice p n c, .slice q n f], .agg #[.slice p' m c', .slice q' m f']] w5 fun e w' => e = .returned (.tuple #[.agg #[.slice none 0 0, .slice none 0 0], .bool false]) ∧ Below w5.heap.size w5 w') := by
    intro w5 hb5
    have hb := below_t hbW hb5
    have := RefMeet_all p q p' q' c f c' f' alo ahi blo bhi (by omega) (by omega) (by omega) w5 (h1.keep hb) (h2.keep hb) (h3.keep hb) (h4.keep hb)
    rw [e1, e2, e3, e4] at this
    refine this.mono ?_
    rintro e w' ⟨hr, hbw⟩
    rw [if_neg hm] at hr
    exact ⟨hr, hbw⟩
  have E1 := Lib.hid e1
  have E2 := Lib.hid e2
  have q0 := OA.cell (i := 0) rfl
  have q1 := OA.cell (i := 1) rfl
  clear hW hf hm e1 e2 e3 e4
  go_enter Try.func62, Try.ntmps62
  go_wp2_with fail
  rw [HW.out]
  refine hE.out.mono ?_
  rintro e5 w5 ⟨rfl, hb5⟩
  have OA5 := OA.keep hb5 OA.lt
  have OB5 := OB.keep hb5 OB.lt
  have r0 := OA5.cell (i := 0) rfl
  have r1 := OA5.cell (i := 1) rfl
  have s0 := OB5.cell (i := 0) rfl
  have s1 := OB5.cell (i := 1) rfl
  clear hE HW q0 q1 OA OB
  go_wp2_with fail
  refine (hX.out w5 hb5).mono ?_
  rintro e6 w6 ⟨rfl, hb6⟩
  have OA6 := OA5.keep hb6 OA5.lt
  have q0 := ((OA6.keep (below_alloc w6 (.cells #[.slice none 0 0, .slice none 0 0] 65)) OA6.lt).cell (i := 0) rfl)
  have q1 := ((OA6.keep (below_alloc w6 (.cells #[.slice none 0 0, .slice none 0 0] 65)) OA6.lt).cell (i := 1) rfl)
  have hb := Lib.hid (below_t hbW (below_t hb5 hb6))
  have hz := Lib.hid hb.out.size
  clear hX r0 r1 s0 s1 OA5 OB5 OA6 hb5 hb6 hbW
  go_wp2_with fail
  have hb7 := below_t hb.out (below_t (below_alloc w6 (.cells #[.slice none 0 0, .slice none 0 0] 65)) (below_alloc _ (.cells #[.slice p n c, .slice q n f] 65)))
  refine bodyPost_ret (v := .slice (some ⟨w6.heap.size + 1, 0, none⟩) 1 1) (by simp [results, Try.results62, go_sem]) rfl ⟨⟨_, 1, [⟨p, c, alo, q, f, ahi⟩], rfl, .inr ⟨w6.heap.size + 1, rfl, by have := hz.out; omega, ?_⟩, ?_, ?_⟩, hb7⟩
  · have : flatB [⟨p, c, alo, q, f, ahi⟩] = [.slice p n c, .slice q n f] := by simp [flatB, BoxV.vals, E1.out, E2.out]
    rw [this]
    exact Own.made _ _ [.slice p n c, .slice q n f] 65 (by simp)
  · intro x hx
    rw [List.mem_singleton] at hx
    subst hx
    exact ⟨h1.keep hb7, h2.keep hb7⟩
  · unfold minusX
    rw [if_neg (not_not_intro HF.out), if_neg HM.out]
    rfl
end Go.Proofs.Ythkfjdhakbjllaa
