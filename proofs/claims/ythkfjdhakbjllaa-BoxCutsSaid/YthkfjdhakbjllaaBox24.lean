/- What is left of a box without another one that it meets: box.Minus. No condition beyond what each says. -/
import Derived.Test.YthkfjdhakbjllaaBox23
namespace Go.Proofs.Ythkfjdhakbjllaa
open Go.RowKit Go.Shelf
set_option linter.unusedVariables false
set_option linter.unusedSimpArgs false

theorem flat_two {p1 p2 p3 p4 : Option Addr} {c1 c2 c3 c4 n : Nat} {xs ys us vs : List Int} {d0 d1 : Bool} (h1 : xs.length = n) (h2 : ys.length = n) (h3 : us.length = n) (h4 : vs.length = n) :
    ((if d0 then [] else [.slice p1 n c1, .slice p2 n c2]) ++ if d1 then [] else [.slice p3 n c3, .slice p4 n c4]) = flatB ((if d0 then [] else [⟨p1, c1, xs, p2, c2, ys⟩]) ++ if d1 then [] else [⟨p3, c3, us, p4, c4, vs⟩]) := by
  cases d0 <;> cases d1 <;> simp [flatB, BoxV.vals, h1, h2, h3, h4]
theorem RowIn.ints_d {w wr : World} {p : Option Addr} {xs : List Int} (h : RowIn w wr p xs) (hb : Below w.heap.size w wr) (hx : ∀ x ∈ xs, I64 x) (hl : xs.length ≤ 1000000) : Ints wr.drew p xs := (h.ints hb hx hl).keep ((Below.refl _ _).drew)
theorem two_len (d0 d1 : Bool) (x y : BoxV) : ((if d0 then [] else [x]) ++ if d1 then [] else [y]).length ≤ 2 := by cases d0 <;> cases d1 <;> simp
theorem owns_mono {w : World} {B B' size n : Nat} {e : TypeId} {v : Value} {xs : List Value} (h : w.ownsRow B e size v n xs) (hB : B' ≤ B) : w.ownsRow B' e size v n xs := by
  obtain ⟨h1, h2⟩ := h
  refine ⟨h1, ?_⟩
  rcases h2 with h2 | ⟨g, cap, cur, hv, h3, h4⟩
  · exact .inl h2
  · exact .inr ⟨g, cap, cur, hv, by omega, h4⟩
theorem boxes_new {w : World} {B : Nat} {v : Value} {bs : List BoxV} (h : w.ownsRow B 67 2 v bs.length (flatB bs)) : ∃ q cap, v = .slice q bs.length cap ∧ New B w q 67 (flatB bs) := by
  obtain ⟨h1, h2⟩ := h
  rcases h2 with ⟨rfl, h0⟩ | ⟨g, cap, cur, rfl, hb, hg, -, -, -, ht⟩
  · have : bs = [] := List.eq_nil_of_length_eq_zero h0
    subst this
    exact ⟨none, 0, rfl, .inl rfl⟩
  · refine ⟨some ⟨g, 0, none⟩, cap, rfl, .inr ⟨g, rfl, hb, cur.toList.drop (bs.length * 2), ?_⟩⟩
    rw [hg]
    have e : flatB bs ++ cur.toList.drop (bs.length * 2) = cur.toList := by
      conv => lhs; lhs; rw [← ht]
      exact List.take_append_drop _ _
    rw [e]
theorem minus_yes_ret {alo ahi blo bhi : List Int} {w wr : World} {B k : Nat} {v : Value} {bs : List BoxV} (ha : alo.length = ahi.length) (hb : blo.length = bhi.length) (hm : Meets alo ahi blo bhi) (hk : k = alo.length) (hB : w.heap.size ≤ B)
    (ho : wr.ownsRow B 67 2 v bs.length (flatB bs)) (hr : NewsB w.heap.size wr bs) (hv : bs.map BoxV.bx = cutsX alo ahi (meetLo alo blo) (meetHi ahi bhi) k) (hbw : Below w.heap.size w wr) : MinusRet alo ahi blo bhi w (.returned v) wr := by
  obtain ⟨q, cap, rfl, hn⟩ := boxes_new ho
  refine ⟨⟨q, cap, bs, rfl, hn.mono hB, hr, ?_, fun _ => owns_mono ho hB⟩, hbw⟩
  have hf : FullX alo ahi := fun j hj => by
    have := cuts_range ha hb hm j hj
    omega
  unfold minusX
  rw [if_neg (not_not_intro hf), if_pos hm, hv, hk]
theorem append_cons_take {c : List Int} {k : Nat} {r : List Int} (hk : k < c.length) : c.take (k + 1) ++ r = c.take k ++ nth c k :: r := by
  rw [take_nth hk, List.append_assoc]
  rfl
theorem ne_nil_of {xs : List Int} {n : Nat} (h : xs.length = n) (hn : 0 < n) : xs.map (Value.int .i64) ≠ [] := fun e => by
  have := congrArg List.length e
  rw [List.length_map, h] at this
  simp at this
  omega
/-- what a round of the loop has at hand before it grows the list -/
theorem cut_round {w : World} {B n : Nat} {A1 A2 : Value} {g5 g8 : Nat} {pc qc : Option Addr} {cc fc : Nat} {alo ahi clo chi : List Int} {k : Nat} {v v' : Value} {bs : List BoxV} {a z : World} {p1 p2 p3 p4 : Option Addr} {c1 c2 c3 c4 B1 B2 : Nat} {d0 d1 : Bool} {x0 x1 y0 y1 : List Int}
    (h : MinSt w B n A1 A2 g5 g8 pc qc cc fc alo ahi clo chi k k v bs a) (hg : a.grownBy z v.ownBlock)
    (h1 : New B1 a p1 3 (x0.map (.int .i64))) (h2 : New B1 a p2 3 (x1.map (.int .i64))) (h3 : New B2 a p3 3 (y0.map (.int .i64))) (h4 : New B2 a p4 3 (y1.map (.int .i64))) (hB1 : w.heap.size ≤ B1) (hB2 : w.heap.size ≤ B2)
    (e0 : (x0, x1) = cutX alo ahi clo chi k false) (e1 : (y0, y1) = cutX alo ahi clo chi k true) (f0 : (countX x0 x1 == 0) = d0) (f1 : (countX y0 y1 == 0) = d1)
    (hr : z.ownsRow B 67 2 v' (bs.length + ((if d0 then [] else [(⟨p1, c1, x0, p2, c2, x1⟩ : BoxV)]) ++ if d1 then [] else [(⟨p3, c3, y0, p4, c4, y1⟩ : BoxV)]).length) (flatB bs ++ flatB ((if d0 then [] else [⟨p1, c1, x0, p2, c2, x1⟩]) ++ if d1 then [] else [⟨p3, c3, y0, p4, c4, y1⟩]))) :
    MinSt w B n A1 A2 g5 g8 pc qc cc fc alo ahi clo chi (k + 1) k v' (bs ++ ((if d0 then [] else [⟨p1, c1, x0, p2, c2, x1⟩]) ++ if d1 then [] else [⟨p3, c3, y0, p4, c4, y1⟩])) z := by
  refine h.app hg hr ?_ ?_
  · intro (x : BoxV) hx
    have hx : x = (⟨p1, c1, x0, p2, c2, x1⟩ : BoxV) ∨ x = (⟨p3, c3, y0, p4, c4, y1⟩ : BoxV) := by
      cases d0 <;> cases d1 <;> simp at hx
      · exact hx
      · exact .inl hx
      · exact .inr hx
    rcases hx with rfl | rfl
    · exact ⟨h1.mono hB1, h2.mono hB1⟩
    · exact ⟨h3.mono hB2, h4.mono hB2⟩
  · rw [List.map_append, h.val, cutsX_next, two_cut (b0 := ⟨p1, c1, x0, p2, c2, x1⟩) (b1 := ⟨p3, c3, y0, p4, c4, y1⟩) e0 e1 (full_count f0) (full_count f1)]

set_option maxRecDepth 100000 in
set_option maxHeartbeats 8000000 in
theorem Minus_yes (p q p' q' : Option Addr) (c f c' f' : Nat) (alo ahi blo bhi : List Int) (n m : Nat) (e1 : alo.length = n) (e2 : ahi.length = n) (e3 : blo.length = m) (e4 : bhi.length = m) (h5 : n ≤ 5) (n1 : NL alo) (n2 : NL ahi) (hm : Meets alo ahi blo bhi)
    (w : World) (h1 : Ints w p alo) (h2 : Ints w q ahi) (h3 : Ints w p' blo) (h4 : Ints w q' bhi) :
    Calls Try.prog 61 #[.agg #[.slice p n c, .slice q n f], .agg #[.slice p' m c', .slice q' m f']] w (MinusRet alo ahi blo bhi w) := by
  obtain ⟨W, hW, hz, hbW, OA, OB⟩ : ∃ W, (w.alloc (.cells #[.slice p n c, .slice q n f] 67)).alloc (.cells #[.slice p' m c', .slice q' m f'] 67) = W ∧ W.heap.size = w.heap.size + 2 ∧ Below w.heap.size w W ∧ Own W w.heap.size 67 [.slice p n c, .slice q n f] ∧ Own W (w.heap.size + 1) 67 [.slice p' m c', .slice q' m f'] := by
    have b1 := below_alloc w (.cells #[.slice p n c, .slice q n f] 67)
    have OA := Own.made w w.heap.size [.slice p n c, .slice q n f] 67 rfl
    have b2 := below_alloc (w.alloc (.cells #[.slice p n c, .slice q n f] 67)) (.cells #[.slice p' m c', .slice q' m f'] 67)
    exact ⟨_, rfl, by simp, below_t b1 b2, OA.keep b2 OA.lt, Own.made _ (w.heap.size + 1) [.slice p' m c', .slice q' m f'] 67 (by simp)⟩
  have HW := Lib.hid hW
  have HM := Lib.hid hm
  have E1 := Lib.hid e1
  have E2 := Lib.hid e2
  have E3 := Lib.hid e3
  have E4 := Lib.hid e4
  have ha : alo.length = ahi.length := by omega
  have hbl : blo.length = bhi.length := by omega
  obtain ⟨nc1, nc2⟩ := meet_NL ha hbl hm n1 n2
  have lc1 : (meetLo alo blo).length = n := by rw [meetLo_len hm.1]; exact e1
  have lc2 : (meetHi ahi bhi).length = n := by rw [meetHi_len (by have := hm.1; omega)]; exact e2
  have hV2 : Hid (n = m → FullX (meetLo alo blo) (meetHi ahi bhi) → vol (meetLo alo blo) (meetHi ahi bhi) (meetLo alo blo).length ≤ 9000000000000000000) := fun _ => nc1.vol nc2 (by omega) (by omega)
  have hr5 : Hid (∀ (e : Ending) (w' : World), MeetRet alo ahi blo bhi W e w' → ∃ pc cc qc fc, e = .returned (.tuple #[.agg #[.slice pc n cc, .slice qc n fc], .bool true]) ∧ New W.heap.size w' pc 3 ((meetLo alo blo).map (.int .i64)) ∧ New W.heap.size w' qc 3 ((meetHi ahi bhi).map (.int .i64)) ∧ Below W.heap.size W w') := by
    rintro e w' ⟨hret, hb⟩
    rw [if_pos hm, lc1, lc2] at hret
    obtain ⟨pc, cc, qc, fc, he, k1, k2⟩ := hret
    exact ⟨pc, cc, qc, fc, he, k1, k2, hb⟩
  obtain ⟨clo, hclo⟩ : ∃ clo, meetLo alo blo = clo := ⟨_, rfl⟩
  obtain ⟨chi, hchi⟩ : ∃ chi, meetHi ahi bhi = chi := ⟨_, rfl⟩
  rw [hclo] at lc1 nc1
  rw [hchi] at lc2 nc2
  have HCL := Lib.hid hclo
  have HCH := Lib.hid hchi
  have LC1 := Lib.hid lc1
  have LC2 := Lib.hid lc2
  have i1 := Lib.hid (h1.keep hbW)
  have i2 := Lib.hid (h2.keep hbW)
  have i3 := Lib.hid (h3.keep hbW)
  have i4 := Lib.hid (h4.keep hbW)
  have q0 := OA.cell (i := 0) rfl
  have q1 := OA.cell (i := 1) rfl
  have r0 := OB.cell (i := 0) rfl
  have r1 := OB.cell (i := 1) rfl
  clear hW hm e1 e2 e3 e4 ha hbl lc1 lc2 hclo hchi
  go_enter Try.func61, Try.ntmps61
  go_wp2_with fail
  rw [HW.out]
  refine (Meet_is p q p' q' c f c' f' alo ahi blo bhi n m E1.out E2.out E3.out E4.out (by omega) hV2.out W i1.out i2.out i3.out i4.out).mono ?_
  intro e5 w5 hret
  obtain ⟨pc, cc, qc, fc, rfl, k1, k2, hb5⟩ := hr5.out _ _ hret
  rw [HCL.out] at k1
  rw [HCH.out] at k2
  have OA5 := OA.keep hb5 OA.lt
  have hb := below_t hbW hb5
  have hz5 := hb5.size
  have s0 := OA5.cell (i := 0) rfl
  have s1 := OA5.cell (i := 1) rfl
  clear q0 q1 r0 r1 OA OB HW hret hr5 hV2 i1 i2 i3 i4
  have b6 := below_alloc w5 (.cells #[.slice pc n cc, .slice qc n fc] 67)
  have OC := Own.made w5 _ [.slice pc n cc, .slice qc n fc] 67 rfl
  obtain ⟨W6, hW6⟩ : ∃ W6, w5.alloc (.cells #[.slice pc n cc, .slice qc n fc] 67) = W6 := ⟨_, rfl⟩
  have z6 : W6.heap.size = w5.heap.size + 1 := by rw [← hW6]; simp
  have OC : Own W6 w5.heap.size 67 [.slice pc n cc, .slice qc n fc] := hW6 ▸ OC
  rw [hW6] at b6
  have b7 := below_alloc W6 (.cells #[.slice p n c, .slice q n f] 67)
  have OR := Own.made W6 (w5.heap.size + 1) [.slice p n c, .slice q n f] 67 z6.symm
  obtain ⟨W7, hW7⟩ : ∃ W7, W6.alloc (.cells #[.slice p n c, .slice q n f] 67) = W7 := ⟨_, rfl⟩
  have OR : Own W7 (w5.heap.size + 1) 67 [.slice p n c, .slice q n f] := hW7 ▸ OR
  have z7 : W7.heap.size = w5.heap.size + 2 := by rw [← hW7]; simp [z6]
  rw [hW7] at b7
  have b67 := below_t b6 b7
  have hpc : Hid (∀ g, pc = some ⟨g, 0, none⟩ → 0 < n → g < w5.heap.size) := by
    intro g hg hn
    obtain ⟨g', hg', -, ho⟩ := k1.out (ne_nil_of LC1.out hn)
    rw [hg] at hg'
    cases hg'
    exact ho.lt
  have hqc : Hid (∀ g, qc = some ⟨g, 0, none⟩ → 0 < n → g < w5.heap.size) := by
    intro g hg hn
    obtain ⟨g', hg', -, ho⟩ := k2.out (ne_nil_of LC2.out hn)
    rw [hg] at hg'
    cases hg'
    exact ho.lt
  have HST : Hid (MinSt w (w5.heap.size + 2) n (.slice p n c) (.slice q n f) w5.heap.size (w5.heap.size + 1) pc qc cc fc alo ahi clo chi 0 0 (.slice none 0 0) [] W7) :=
    ⟨OA5.keep b67 OA5.lt, OC.keep b7 OC.lt, (k1.keep' b67).mono (by omega), (k2.keep' b67).mono (by omega), ⟨p, c, q, f, OR, .inl (by simpa using h1), .inl (by simpa using h2)⟩, World.ownsRow_nil _ _ _ _, (fun x hx => by cases hx), (by simp [cutsX]), below_t hb b67, by omega, ⟨by omega, by omega, by omega⟩⟩
  have hlt0 := OA5.lt
  have HW67 : Hid ((w5.alloc (.cells #[.slice pc n cc, .slice qc n fc] 67)).alloc (.cells #[.slice p n c, .slice q n f] 67) = W7) := by rw [Hid, hW6, hW7]
  have s0' : W6.cell? ⟨w.heap.size, 0, none⟩ = some (.slice p n c) := (b6.cell (p := ⟨w.heap.size, 0, none⟩) hlt0).trans s0
  have s1' : W6.cell? ⟨w.heap.size, 1, none⟩ = some (.slice q n f) := (b6.cell (p := ⟨w.heap.size, 1, none⟩) hlt0).trans s1
  have s0'' : W7.cell? ⟨w.heap.size, 0, none⟩ = some (.slice p n c) := HST.out.a.cell (i := 0) rfl
  rw [← hW7] at s0''
  rw [← hW6] at s0' s1' s0''
  clear OA5 OC OR b6 b7 b67 hb hb5 k1 k2 hW7 z7 hW6 z6 hz5 hlt0 s0 s1
  go_wp2_with fail
  rw [HW67.out]
  clear s0' s1' s0'' HW67
  rename World => W7
  go_loopw [7, 31] (fun v i wr => ∃ (k : Nat) (v' : Value) (bs : List BoxV), k ≤ n ∧ i = .int .i64 k ∧ v' = v ∧ Hid (bs.length ≤ 2 * k) ∧ Hid (MinSt w (w5.heap.size + 2) n (.slice p n c) (.slice q n f) w5.heap.size (w5.heap.size + 1) pc qc cc fc alo ahi clo chi k k v' bs wr)) (fun _ i _ => n - (intOf i).toNat)
  case atStart => exact ⟨0, _, [], Nat.zero_le _, rfl, rfl, Nat.zero_le _, HST⟩
  case round =>
    obtain ⟨k, v, bs, hk, rfl, rfl, HBL, HS⟩ := hrel
    clear HST
    by_cases hlt : k < n
    · have hi1 : (k : Int) < (n : Int) := by omega
      have la1 : k < alo.length := by have := E1.out; omega
      have la2 : k < ahi.length := by have := E2.out; omega
      have lk1 : k < clo.length := by have := LC1.out; omega
      have lk2 : k < chi.length := by have := LC2.out; omega
      obtain ⟨ba, oa, rfl, hba, ca⟩ := h1.at la1
      obtain ⟨bb, ob, rfl, hbb, cb⟩ := h2.at la2
      obtain ⟨gc, rfl, hgc, oc⟩ := HS.out.cl.out (ne_nil_of LC1.out (by omega))
      obtain ⟨gd, rfl, hgd, od⟩ := HS.out.ch.out (ne_nil_of LC2.out (by omega))
      have hgc5 := hpc.out gc rfl (by omega)
      have hgd5 := hqc.out gd rfl (by omega)
      obtain ⟨pr, cr, qr, fr, orr, rr1, rr2⟩ := HS.out.r
      obtain ⟨xa, hxa⟩ : ∃ x, nth alo k = x := ⟨_, rfl⟩
      obtain ⟨ya, hya⟩ : ∃ x, nth ahi k = x := ⟨_, rfl⟩
      obtain ⟨xc, hxc⟩ : ∃ x, nth clo k = x := ⟨_, rfl⟩
      obtain ⟨yc, hyc⟩ : ∃ x, nth chi k = x := ⟨_, rfl⟩
      have bxa : -1000 ≤ xa ∧ xa ≤ 1000 := hxa ▸ n1.nth la1
      have bya : -1000 ≤ ya ∧ ya ≤ 1000 := hya ▸ n2.nth la2
      have bxc : -1000 ≤ xc ∧ xc ≤ 1000 := hxc ▸ nc1.nth lk1
      have byc : -1000 ≤ yc ∧ yc ≤ 1000 := hyc ▸ nc2.nth lk2
      have hbw := HS.out.below
      have ca' : wr.cell? ⟨ba, oa + k, none⟩ = some (.int .i64 xa) := by rw [← hxa]; exact (hbw.cell (p := ⟨ba, oa + k, none⟩) hba).trans ca
      have cb' : wr.cell? ⟨bb, ob + k, none⟩ = some (.int .i64 ya) := by rw [← hya]; exact (hbw.cell (p := ⟨bb, ob + k, none⟩) hbb).trans cb
      have cc' : wr.cell? ⟨gc, k, none⟩ = some (.int .i64 xc) := by rw [← hxc]; exact oc.cell (by rw [List.getElem?_map, nth_get? lk1]; rfl)
      have cd' : wr.cell? ⟨gd, k, none⟩ = some (.int .i64 yc) := by rw [← hyc]; exact od.cell (by rw [List.getElem?_map, nth_get? lk2]; rfl)
      have HXA := Lib.hid hxa
      have HYA := Lib.hid hya
      have HXC := Lib.hid hxc
      have HYC := Lib.hid hyc
      have hoA := HS.out.a
      have hoC := HS.out.cv
      have hle5 : w.heap.size + 2 ≤ w5.heap.size := HS.out.blocks.1
      have hsz := HS.out.size
      have R1 := Lib.hid rr1
      have R2 := Lib.hid rr2
      have lr1 : (clo.take k ++ alo.drop k).length = n := by rw [List.length_append, List.length_take, List.length_drop, LC1.out, E1.out]; omega
      have lr2 : (chi.take k ++ ahi.drop k).length = n := by rw [List.length_append, List.length_take, List.length_drop, LC2.out, E2.out]; omega
      have LR1 := Lib.hid lr1
      have LR2 := Lib.hid lr2
      have er : ∀ x, (clo.take k ++ alo.drop k).set k x = clo.take k ++ x :: alo.drop (k + 1) := fun x => set_cut (by have := LC1.out; have := E1.out; omega) la1
      have er2 : ∀ x, (chi.take k ++ ahi.drop k).set k x = chi.take k ++ x :: ahi.drop (k + 1) := fun x => set_cut (by have := LC2.out; have := E2.out; omega) la2
      have lx : ∀ x, (clo.take k ++ x :: alo.drop (k + 1)).length = n := fun x => by rw [← er x, List.length_set, lr1]
      have ly : ∀ x, (chi.take k ++ x :: ahi.drop (k + 1)).length = n := fun x => by rw [← er2 x, List.length_set, lr2]
      have ER := Lib.hid er
      have ER2 := Lib.hid er2
      have LX := Lib.hid lx
      have LY := Lib.hid ly
      obtain ⟨d0, hd0⟩ : ∃ d, (countX (clo.take k ++ xa :: alo.drop (k + 1)) (chi.take k ++ xc :: ahi.drop (k + 1)) == 0) = d := ⟨_, rfl⟩
      obtain ⟨d1, hd1⟩ : ∃ d, (countX (clo.take k ++ yc :: alo.drop (k + 1)) (chi.take k ++ ya :: ahi.drop (k + 1)) == 0) = d := ⟨_, rfl⟩
      have HD0 := Lib.hid hd0
      have HD1 := Lib.hid hd1
      have hKS : Keeps (fun w' => (w5.heap.size + 1 < w'.heap.size ∧ w'.cell? ⟨w5.heap.size + 1, 0, none⟩ = some (.slice pr n cr)) ∧ (w5.heap.size + 1 < w'.heap.size ∧ w'.cell? ⟨w5.heap.size + 1, 1, none⟩ = some (.slice qr n fr)) ∧ (w.heap.size < w'.heap.size ∧ w'.cell? ⟨w.heap.size, 0, none⟩ = some (.slice (some ⟨ba, oa, none⟩) n c)) ∧ (w.heap.size < w'.heap.size ∧ w'.cell? ⟨w.heap.size, 1, none⟩ = some (.slice (some ⟨bb, ob, none⟩) n f)) ∧ (w5.heap.size < w'.heap.size ∧ w'.cell? ⟨w5.heap.size, 0, none⟩ = some (.slice (some ⟨gc, 0, none⟩) n cc)) ∧ (w5.heap.size < w'.heap.size ∧ w'.cell? ⟨w5.heap.size, 1, none⟩ = some (.slice (some ⟨gd, 0, none⟩) n fc)) ∧ (ba < w'.heap.size ∧ w'.cell? ⟨ba, oa + k, none⟩ = some (.int .i64 xa)) ∧ (bb < w'.heap.size ∧ w'.cell? ⟨bb, ob + k, none⟩ = some (.int .i64 ya)) ∧ (gc < w'.heap.size ∧ w'.cell? ⟨gc, k, none⟩ = some (.int .i64 xc)) ∧ (gd < w'.heap.size ∧ w'.cell? ⟨gd, k, none⟩ = some (.int .i64 yc)) ∧ Below w.heap.size w w') := (keeps_cell _ _ _).and ((keeps_cell _ _ _).and ((keeps_cell _ _ _).and ((keeps_cell _ _ _).and ((keeps_cell _ _ _).and ((keeps_cell _ _ _).and ((keeps_cell _ _ _).and ((keeps_cell _ _ _).and ((keeps_cell _ _ _).and ((keeps_cell _ _ _).and (keeps_below w))))))))))
      have hKB : KeepsB (w5.heap.size + 2) (fun w' => (w5.heap.size + 1 < w'.heap.size ∧ w'.cell? ⟨w5.heap.size + 1, 0, none⟩ = some (.slice pr n cr)) ∧ (w5.heap.size + 1 < w'.heap.size ∧ w'.cell? ⟨w5.heap.size + 1, 1, none⟩ = some (.slice qr n fr)) ∧ (w.heap.size < w'.heap.size ∧ w'.cell? ⟨w.heap.size, 0, none⟩ = some (.slice (some ⟨ba, oa, none⟩) n c)) ∧ (w.heap.size < w'.heap.size ∧ w'.cell? ⟨w.heap.size, 1, none⟩ = some (.slice (some ⟨bb, ob, none⟩) n f)) ∧ (w5.heap.size < w'.heap.size ∧ w'.cell? ⟨w5.heap.size, 0, none⟩ = some (.slice (some ⟨gc, 0, none⟩) n cc)) ∧ (w5.heap.size < w'.heap.size ∧ w'.cell? ⟨w5.heap.size, 1, none⟩ = some (.slice (some ⟨gd, 0, none⟩) n fc)) ∧ (ba < w'.heap.size ∧ w'.cell? ⟨ba, oa + k, none⟩ = some (.int .i64 xa)) ∧ (bb < w'.heap.size ∧ w'.cell? ⟨bb, ob + k, none⟩ = some (.int .i64 ya)) ∧ (gc < w'.heap.size ∧ w'.cell? ⟨gc, k, none⟩ = some (.int .i64 xc)) ∧ (gd < w'.heap.size ∧ w'.cell? ⟨gd, k, none⟩ = some (.int .i64 yc)) ∧ Below w.heap.size w w') := (keepsB_cell _ _ (by omega)).and ((keepsB_cell _ _ (by omega)).and ((keepsB_cell _ _ (by omega)).and ((keepsB_cell _ _ (by omega)).and ((keepsB_cell _ _ (by omega)).and ((keepsB_cell _ _ (by omega)).and ((keepsB_cell _ _ (by omega)).and ((keepsB_cell _ _ (by omega)).and ((keepsB_cell _ _ (by omega)).and ((keepsB_cell _ _ (by omega)).and (keepsB_below (by omega)))))))))))
      have hS : (fun w' => (w5.heap.size + 1 < w'.heap.size ∧ w'.cell? ⟨w5.heap.size + 1, 0, none⟩ = some (.slice pr n cr)) ∧ (w5.heap.size + 1 < w'.heap.size ∧ w'.cell? ⟨w5.heap.size + 1, 1, none⟩ = some (.slice qr n fr)) ∧ (w.heap.size < w'.heap.size ∧ w'.cell? ⟨w.heap.size, 0, none⟩ = some (.slice (some ⟨ba, oa, none⟩) n c)) ∧ (w.heap.size < w'.heap.size ∧ w'.cell? ⟨w.heap.size, 1, none⟩ = some (.slice (some ⟨bb, ob, none⟩) n f)) ∧ (w5.heap.size < w'.heap.size ∧ w'.cell? ⟨w5.heap.size, 0, none⟩ = some (.slice (some ⟨gc, 0, none⟩) n cc)) ∧ (w5.heap.size < w'.heap.size ∧ w'.cell? ⟨w5.heap.size, 1, none⟩ = some (.slice (some ⟨gd, 0, none⟩) n fc)) ∧ (ba < w'.heap.size ∧ w'.cell? ⟨ba, oa + k, none⟩ = some (.int .i64 xa)) ∧ (bb < w'.heap.size ∧ w'.cell? ⟨bb, ob + k, none⟩ = some (.int .i64 ya)) ∧ (gc < w'.heap.size ∧ w'.cell? ⟨gc, k, none⟩ = some (.int .i64 xc)) ∧ (gd < w'.heap.size ∧ w'.cell? ⟨gd, k, none⟩ = some (.int .i64 yc)) ∧ Below w.heap.size w w') wr := ⟨⟨orr.lt, orr.cell (i := 0) rfl⟩, ⟨orr.lt, orr.cell (i := 1) rfl⟩, ⟨hoA.lt, hoA.cell (i := 0) rfl⟩, ⟨hoA.lt, hoA.cell (i := 1) rfl⟩, ⟨hoC.lt, hoC.cell (i := 0) rfl⟩, ⟨hoC.lt, hoC.cell (i := 1) rfl⟩, ⟨by omega, ca'⟩, ⟨by omega, cb'⟩, ⟨oc.lt, cc'⟩, ⟨od.lt, cd'⟩, hbw⟩
      clear hxa hya hxc hyc ca' cb' cc' cd' hd0 hd1 lr1 lr2 er er2 lx ly ca cb oc od orr rr1 rr2 hoA hoC hpc hqc
      go_upto_region 9 with fail
      go_cut [7] (fun t wx => ∃ wz cs v7, wz = wx ∧ v7 = t ∧ Hid ((bs ++ cs).length ≤ 2 * (k + 1)) ∧ Hid (MinSt w (w5.heap.size + 2) n (.slice (some ⟨ba, oa, none⟩) n c) (.slice (some ⟨bb, ob, none⟩) n f) w5.heap.size (w5.heap.size + 1) (some ⟨gc, 0, none⟩) (some ⟨gd, 0, none⟩) cc fc alo ahi clo chi (k + 1) k v7 (bs ++ cs) wz))
      case first =>
        refine wp_region_noPanic ?_
        refine wp_region_held_drew (S := (fun w' => (w5.heap.size + 1 < w'.heap.size ∧ w'.cell? ⟨w5.heap.size + 1, 0, none⟩ = some (.slice pr n cr)) ∧ (w5.heap.size + 1 < w'.heap.size ∧ w'.cell? ⟨w5.heap.size + 1, 1, none⟩ = some (.slice qr n fr)) ∧ (w.heap.size < w'.heap.size ∧ w'.cell? ⟨w.heap.size, 0, none⟩ = some (.slice (some ⟨ba, oa, none⟩) n c)) ∧ (w.heap.size < w'.heap.size ∧ w'.cell? ⟨w.heap.size, 1, none⟩ = some (.slice (some ⟨bb, ob, none⟩) n f)) ∧ (w5.heap.size < w'.heap.size ∧ w'.cell? ⟨w5.heap.size, 0, none⟩ = some (.slice (some ⟨gc, 0, none⟩) n cc)) ∧ (w5.heap.size < w'.heap.size ∧ w'.cell? ⟨w5.heap.size, 1, none⟩ = some (.slice (some ⟨gd, 0, none⟩) n fc)) ∧ (ba < w'.heap.size ∧ w'.cell? ⟨ba, oa + k, none⟩ = some (.int .i64 xa)) ∧ (bb < w'.heap.size ∧ w'.cell? ⟨bb, ob + k, none⟩ = some (.int .i64 ya)) ∧ (gc < w'.heap.size ∧ w'.cell? ⟨gc, k, none⟩ = some (.int .i64 xc)) ∧ (gd < w'.heap.size ∧ w'.cell? ⟨gd, k, none⟩ = some (.int .i64 yc)) ∧ Below w.heap.size w w')) (by kernel_rfl) ?_ (fun hHeld => ?_)
        · (try dsimp only); first | exact hKS _ _ (by first | exact hHeld | exact hS) (by first | assumption | (go_grown; done) | (refine from_drew ?_; go_grown; done)) | exact hKB _ _ hHeld (hb4.mono (by have := hb1.size; have := hb2.size; simp at *; omega)) | exact hKB _ _ hHeld ((Below.refl _ _).grown hg6 (by have := M4.out.size; omega) fun g e => (row_lt M4.out.out e).1)
        refine takeH 0 (some 34) (v := ?_) rfl rfl (by kernel_rfl) (by kernel_rfl) (by kernel_rfl) (by rfl) ?_ (by exact hHeld) ?_
        rotate_left
        · intro w hSw; (try dsimp only at hSw); go_simp; try (with_reducible rfl)
        try simp only [Act.put, List.setIfInBounds_toArray, List.set_cons_zero, List.set_cons_succ]
        refine takeH 1 (some 35) (v := ?_) rfl rfl (by kernel_rfl) (by kernel_rfl) (by kernel_rfl) (by rfl) ?_ (by exact hHeld) ?_
        rotate_left
        · intro w hSw; (try dsimp only at hSw); go_simp; try (with_reducible rfl)
        try simp only [Act.put, List.setIfInBounds_toArray, List.set_cons_zero, List.set_cons_succ]
        refine takeH 2 (some 36) (v := ?_) rfl rfl (by kernel_rfl) (by kernel_rfl) (by kernel_rfl) (by rfl) ?_ (by exact hHeld) ?_
        rotate_left
        · intro w hSw; (try dsimp only at hSw); go_simp; try (with_reducible rfl)
        try simp only [Act.put, List.setIfInBounds_toArray, List.set_cons_zero, List.set_cons_succ]
        refine takeH 3 (some 37) (v := ?_) rfl rfl (by kernel_rfl) (by kernel_rfl) (by kernel_rfl) (by rfl) ?_ (by exact hHeld) ?_
        rotate_left
        · intro w hSw; (try dsimp only at hSw); go_simp; try (with_reducible rfl)
        try simp only [Act.put, List.setIfInBounds_toArray, List.set_cons_zero, List.set_cons_succ]
        refine takeH 4 (some 38) (v := ?_) rfl rfl (by kernel_rfl) (by kernel_rfl) (by kernel_rfl) (by rfl) ?_ (by exact hHeld) ?_
        rotate_left
        · intro w hSw; (try dsimp only at hSw); go_simp; try (with_reducible rfl)
        try simp only [Act.put, List.setIfInBounds_toArray, List.set_cons_zero, List.set_cons_succ]
        refine takeH 5 (some 39) (v := ?_) rfl rfl (by kernel_rfl) (by kernel_rfl) (by kernel_rfl) (by rfl) ?_ (by exact hHeld) ?_
        rotate_left
        · intro w hSw; (try dsimp only at hSw); go_simp; try (with_reducible rfl)
        try simp only [Act.put, List.setIfInBounds_toArray, List.set_cons_zero, List.set_cons_succ]
        refine takeH 6 (some 40) (v := ?_) rfl rfl (by kernel_rfl) (by kernel_rfl) (by kernel_rfl) (by rfl) ?_ (by exact hHeld) ?_
        rotate_left
        · intro w hSw; (try dsimp only at hSw); go_simp; try (with_reducible rfl)
        try simp only [Act.put, List.setIfInBounds_toArray, List.set_cons_zero, List.set_cons_succ]
        refine takeH 7 (some 41) (v := ?_) rfl rfl (by kernel_rfl) (by kernel_rfl) (by kernel_rfl) (by rfl) ?_ (by exact hHeld) ?_
        rotate_left
        · intro w hSw; (try dsimp only at hSw); go_simp; try (with_reducible rfl)
        try simp only [Act.put, List.setIfInBounds_toArray, List.set_cons_zero, List.set_cons_succ]
        refine takeH 8 (some 42) (v := ?_) rfl rfl (by kernel_rfl) (by kernel_rfl) (by kernel_rfl) (by rfl) ?_ (by exact hHeld) ?_
        rotate_left
        · intro w hSw; (try dsimp only at hSw); go_simp; try (with_reducible rfl)
        try simp only [Act.put, List.setIfInBounds_toArray, List.set_cons_zero, List.set_cons_succ]
        refine takeH 9 (some 43) (v := ?_) rfl rfl (by kernel_rfl) (by kernel_rfl) (by kernel_rfl) (by rfl) ?_ (by exact hHeld) ?_
        rotate_left
        · intro w hSw; (try dsimp only at hSw); go_simp; try (with_reducible rfl)
        try simp only [Act.put, List.setIfInBounds_toArray, List.set_cons_zero, List.set_cons_succ]
        refine takeH 10 (some 44) (v := ?_) rfl rfl (by kernel_rfl) (by kernel_rfl) (by kernel_rfl) (by rfl) ?_ (by exact hHeld) ?_
        rotate_left
        · intro w hSw; (try dsimp only at hSw); go_simp; try (with_reducible rfl)
        try simp only [Act.put, List.setIfInBounds_toArray, List.set_cons_zero, List.set_cons_succ]
        refine takeH 11 (some 45) (v := ?_) rfl rfl (by kernel_rfl) (by kernel_rfl) (by kernel_rfl) (by rfl) ?_ (by exact hHeld) ?_
        rotate_left
        · intro w hSw; (try dsimp only at hSw); go_simp; try (with_reducible rfl)
        try simp only [Act.put, List.setIfInBounds_toArray, List.set_cons_zero, List.set_cons_succ]
        refine takeH 12 (some 46) (v := ?_) rfl rfl (by kernel_rfl) (by kernel_rfl) (by kernel_rfl) (by rfl) ?_ (by exact hHeld) ?_
        rotate_left
        · intro w hSw; (try dsimp only at hSw); go_simp; try (with_reducible rfl)
        try simp only [Act.put, List.setIfInBounds_toArray, List.set_cons_zero, List.set_cons_succ]
        refine takeH 14 (some 48) (v := ?_) rfl rfl (by kernel_rfl) (by kernel_rfl) (by kernel_rfl) (by rfl) ?_ (by exact hHeld) ?_
        rotate_left
        · intro w hSw; (try dsimp only at hSw); go_simp; try (with_reducible rfl)
        try simp only [Act.put, List.setIfInBounds_toArray, List.set_cons_zero, List.set_cons_succ]
        refine takeH 15 (some 49) (v := ?_) rfl rfl (by kernel_rfl) (by kernel_rfl) (by kernel_rfl) (by rfl) ?_ (by exact hHeld) ?_
        rotate_left
        · intro w hSw; (try dsimp only at hSw); go_simp; try (with_reducible rfl)
        try simp only [Act.put, List.setIfInBounds_toArray, List.set_cons_zero, List.set_cons_succ]
        refine takeH 16 (some 50) (v := ?_) rfl rfl (by kernel_rfl) (by kernel_rfl) (by kernel_rfl) (by rfl) ?_ (by exact hHeld) ?_
        rotate_left
        · intro w hSw; (try dsimp only at hSw); go_simp; try (with_reducible rfl)
        try simp only [Act.put, List.setIfInBounds_toArray, List.set_cons_zero, List.set_cons_succ]
        refine takeH 17 (some 51) (v := ?_) rfl rfl (by kernel_rfl) (by kernel_rfl) (by kernel_rfl) (by rfl) ?_ (by exact hHeld) ?_
        rotate_left
        · intro w hSw; (try dsimp only at hSw); go_simp; try (with_reducible rfl)
        try simp only [Act.put, List.setIfInBounds_toArray, List.set_cons_zero, List.set_cons_succ]
        refine takeH 18 (some 52) (v := ?_) rfl rfl (by kernel_rfl) (by kernel_rfl) (by kernel_rfl) (by rfl) ?_ (by exact hHeld) ?_
        rotate_left
        · intro w hSw; (try dsimp only at hSw); go_simp; try (with_reducible rfl)
        try simp only [Act.put, List.setIfInBounds_toArray, List.set_cons_zero, List.set_cons_succ]
        refine takeH 19 (some 53) (v := ?_) rfl rfl (by kernel_rfl) (by kernel_rfl) (by kernel_rfl) (by rfl) ?_ (by exact hHeld) ?_
        rotate_left
        · intro w hSw; (try dsimp only at hSw); go_simp; try (with_reducible rfl)
        try simp only [Act.put, List.setIfInBounds_toArray, List.set_cons_zero, List.set_cons_succ]
        refine takeH 20 (some 54) (v := ?_) rfl rfl (by kernel_rfl) (by kernel_rfl) (by kernel_rfl) (by rfl) ?_ (by exact hHeld) ?_
        rotate_left
        · intro w hSw; (try dsimp only at hSw); go_simp; try (with_reducible rfl)
        try simp only [Act.put, List.setIfInBounds_toArray, List.set_cons_zero, List.set_cons_succ]
        refine takeH 21 (some 55) (v := ?_) rfl rfl (by kernel_rfl) (by kernel_rfl) (by kernel_rfl) (by rfl) ?_ (by exact hHeld) ?_
        rotate_left
        · intro w hSw; (try dsimp only at hSw); go_simp; try (with_reducible rfl)
        try simp only [Act.put, List.setIfInBounds_toArray, List.set_cons_zero, List.set_cons_succ]
        refine takeH 22 (some 56) (v := ?_) rfl rfl (by kernel_rfl) (by kernel_rfl) (by kernel_rfl) (by rfl) ?_ (by exact hHeld) ?_
        rotate_left
        · intro w hSw; (try dsimp only at hSw); go_simp; try (with_reducible rfl)
        try simp only [Act.put, List.setIfInBounds_toArray, List.set_cons_zero, List.set_cons_succ]
        refine takeH 23 (some 57) (v := ?_) rfl rfl (by kernel_rfl) (by kernel_rfl) (by kernel_rfl) (by rfl) ?_ (by exact hHeld) ?_
        rotate_left
        · intro w hSw; (try dsimp only at hSw); go_simp; try (with_reducible rfl)
        try simp only [Act.put, List.setIfInBounds_toArray, List.set_cons_zero, List.set_cons_succ]
        refine takeH 24 (some 58) (v := ?_) rfl rfl (by kernel_rfl) (by kernel_rfl) (by kernel_rfl) (by rfl) ?_ (by exact hHeld) ?_
        rotate_left
        · intro w hSw; (try dsimp only at hSw); go_simp; try (with_reducible rfl)
        try simp only [Act.put, List.setIfInBounds_toArray, List.set_cons_zero, List.set_cons_succ]
        refine takeH 25 (some 59) (v := ?_) rfl rfl (by kernel_rfl) (by kernel_rfl) (by kernel_rfl) (by rfl) ?_ (by exact hHeld) ?_
        rotate_left
        · intro w hSw; (try dsimp only at hSw); go_simp; try (with_reducible rfl)
        try simp only [Act.put, List.setIfInBounds_toArray, List.set_cons_zero, List.set_cons_succ]
        refine wpAnyH_ready (rs := [13]) (by kernel_rfl) (by simp) ?_
        refine stepH 13 rfl (by rfl) (fun K hK => ?_) ?_
        · go_simp
          ((with_reducible refine (With_is pr qr cr fr _ _ n LR1.out LR2.out k xa xc hlt (by omega) _ ?_ ?_).mono ?_); (exact R1.out.ints_d hbw (NL.app nc1 n1 k k).i64 (by have := LR1.out; omega)); (exact R2.out.ints_d hbw (NL.app nc2 n2 k k).i64 (by have := LR2.out; omega)); rintro e1 w1 ⟨⟨p1, c1, p2, c2, rfl, hn1, hn2⟩, hb1⟩; rw [ER.out] at hn1; rw [ER2.out] at hn2)
          refine hK.out _ _ ?_ (fun hNew => ?_)
          · (try dsimp only); first | exact hKS _ _ (by first | exact hHeld | exact hS) (by first | assumption | (go_grown; done) | (refine from_drew ?_; go_grown; done)) | exact hKB _ _ hHeld (hb4.mono (by have := hb1.size; have := hb2.size; simp at *; omega)) | exact hKB _ _ hHeld ((Below.refl _ _).grown hg6 (by have := M4.out.size; omega) fun g e => (row_lt M4.out.out e).1)
          clear hK K hHeld
          have hHeld := hNew
          clear hNew
          try dsimp only at hHeld
          try simp only [Act.put, List.setIfInBounds_toArray, List.set_cons_zero, List.set_cons_succ]
          refine wpAnyH_ready (rs := [26]) (by kernel_rfl) (by simp) ?_
          refine stepH 26 rfl (by rfl) (fun K hK => ?_) ?_
          · go_simp
            ((with_reducible refine (With_is pr qr cr fr _ _ n LR1.out LR2.out k yc ya hlt (by omega) _ ?_ ?_).mono ?_); (exact (R1.out.ints_d hbw (NL.app nc1 n1 k k).i64 (by have := LR1.out; omega)).keep hb1); (exact (R2.out.ints_d hbw (NL.app nc2 n2 k k).i64 (by have := LR2.out; omega)).keep hb1); rintro e2 w2 ⟨⟨p3, c3, p4, c4, rfl, hn3, hn4⟩, hb2⟩; rw [ER.out] at hn3; rw [ER2.out] at hn4)
            refine hK.out _ _ ?_ (fun hNew => ?_)
            · (try dsimp only); first | exact hKS _ _ (by first | exact hHeld | exact hS) (by first | assumption | (go_grown; done) | (refine from_drew ?_; go_grown; done)) | exact hKB _ _ hHeld (hb4.mono (by have := hb1.size; have := hb2.size; simp at *; omega)) | exact hKB _ _ hHeld ((Below.refl _ _).grown hg6 (by have := M4.out.size; omega) fun g e => (row_lt M4.out.out e).1)
            clear hK K hHeld
            have hHeld := hNew
            clear hNew
            try dsimp only at hHeld
            try simp only [Act.put, List.setIfInBounds_toArray, List.set_cons_zero, List.set_cons_succ]
            refine wpAnyH_ready (rs := [27]) (by kernel_rfl) (by simp) ?_
            refine stepH 27 rfl (by rfl) (fun K hK => ?_) ?_
            · go_simp
              refine hK.out _ _ ?_ (fun hNew => ?_)
              · (try dsimp only); first | exact hKS _ _ (by first | exact hHeld | exact hS) (by first | assumption | (go_grown; done) | (refine from_drew ?_; go_grown; done)) | exact hKB _ _ hHeld (hb4.mono (by have := hb1.size; have := hb2.size; simp at *; omega)) | exact hKB _ _ hHeld ((Below.refl _ _).grown hg6 (by have := M4.out.size; omega) fun g e => (row_lt M4.out.out e).1)
              clear hK K hHeld
              have hHeld := hNew
              clear hNew
              try dsimp only at hHeld
              try simp only [Act.put, List.setIfInBounds_toArray, List.set_cons_zero, List.set_cons_succ]
              refine wpAnyH_ready (rs := [28]) (by kernel_rfl) (by simp) ?_
              refine stepH 28 rfl (by rfl) (fun K hK => ?_) ?_
              · go_simp
                ((with_reducible refine (Filled2 w2.heap.size p1 p2 p3 p4 n c1 n c2 n c3 n c4 d0 d1 _ (flat_two (LX.out xa) (LY.out xc) (LX.out yc) (LY.out ya)) _ (Own.made w2 _ [.slice p1 n c1, .slice p2 n c2, .slice p3 n c3, .slice p4 n c4] _ rfl) ?_ ?_).mono ?_); (exact asks_box p1 p2 c1 c2 _ _ n n (LX.out xa).symm (LY.out xc).symm d0 HD0.out (by rw [LX.out, LY.out]; omega) ((NL.mid nc1 n1 k (k + 1) bxa).vol (NL.mid nc2 n2 k (k + 1) bxc) (by rw [LX.out, LY.out]; omega) (by rw [LX.out]; omega)) _ (((hn1.keep' hb2).keep' (below_alloc _ _)).ints (NL.mid nc1 n1 k (k + 1) bxa).i64 (by rw [LX.out]; omega)) (((hn2.keep' hb2).keep' (below_alloc _ _)).ints (NL.mid nc2 n2 k (k + 1) bxc).i64 (by rw [LY.out]; omega))); (exact asks_box p3 p4 c3 c4 _ _ n n (LX.out yc).symm (LY.out ya).symm d1 HD1.out (by rw [LX.out, LY.out]; omega) ((NL.mid nc1 n1 k (k + 1) byc).vol (NL.mid nc2 n2 k (k + 1) bya) (by rw [LX.out, LY.out]; omega) (by rw [LX.out]; omega)) _ ((hn3.keep' (below_alloc _ _)).ints (NL.mid nc1 n1 k (k + 1) byc).i64 (by rw [LX.out]; omega)) ((hn4.keep' (below_alloc _ _)).ints (NL.mid nc2 n2 k (k + 1) bya).i64 (by rw [LY.out]; omega))); rintro e4 w4 ⟨⟨k4, cap4, hl4, rfl, ho4⟩, hb4⟩)
                refine hK.out _ _ ?_ (fun hNew => ?_)
                · (try dsimp only); first | exact hKS _ _ (by first | exact hHeld | exact hS) (by first | assumption | (go_grown; done) | (refine from_drew ?_; go_grown; done)) | exact hKB _ _ hHeld (hb4.mono (by have := hb1.size; have := hb2.size; simp at *; omega)) | exact hKB _ _ hHeld ((Below.refl _ _).grown hg6 (by have := M4.out.size; omega) fun g e => (row_lt M4.out.out e).1)
                clear hK K hHeld
                have hHeld := hNew
                clear hNew
                try dsimp only at hHeld
                try simp only [Act.put, List.setIfInBounds_toArray, List.set_cons_zero, List.set_cons_succ]
                refine wpAnyH_ready (rs := [29]) (by kernel_rfl) (by simp) ?_
                refine stepH 29 rfl (by rfl) (fun K hK => ?_) ?_
                · have hb24 := (below_alloc w2 (.cells #[.slice p1 n c1, .slice p2 n c2, .slice p3 n c3, .slice p4 n c4] 67)).trans hb4; have M4 := Lib.hid ((((HS.out.keep ((Below.refl _ _).drew)).keep hb1).keep hb2).keep hb24); (refine wp_append_boxes (.tmp 34) (.tmp 62) rfl (w5.heap.size + 2) v bs.length (flatB bs) rfl M4.out.out w2.heap.size k4 cap4 _ rfl hl4 ho4 flatB_one (by have := HBL.out; rw [flatB_len] at hl4; have := two_len d0 d1 (⟨p1, c1, clo.take k ++ xa :: alo.drop (k + 1), p2, c2, chi.take k ++ xc :: ahi.drop (k + 1)⟩ : BoxV) ⟨p3, c3, clo.take k ++ yc :: alo.drop (k + 1), p4, c4, chi.take k ++ ya :: ahi.drop (k + 1)⟩; omega) M4.out.size ?_); intro v6 w6 hr6 hg6
                  refine hK.out _ _ ?_ (fun hNew => ?_)
                  · (try dsimp only); first | exact hKS _ _ (by first | exact hHeld | exact hS) (by first | assumption | (go_grown; done) | (refine from_drew ?_; go_grown; done)) | exact hKB _ _ hHeld (hb4.mono (by have := hb1.size; have := hb2.size; simp at *; omega)) | exact hKB _ _ hHeld ((Below.refl _ _).grown hg6 (by have := M4.out.size; omega) fun g e => (row_lt M4.out.out e).1)
                  clear hK K hHeld
                  have hHeld := hNew
                  clear hNew
                  try dsimp only at hHeld
                  try simp only [Act.put, List.setIfInBounds_toArray, List.set_cons_zero, List.set_cons_succ]
                  refine takeH 30 (some 7) (v := ?_) rfl rfl (by kernel_rfl) (by kernel_rfl) (by kernel_rfl) (by rfl) ?_ (by exact hHeld) ?_
                  rotate_left
                  · intro w hSw; (try dsimp only at hSw); go_simp; try (with_reducible rfl)
                  try simp only [Act.put, List.setIfInBounds_toArray, List.set_cons_zero, List.set_cons_succ]
                  refine wpAnyH_done (by kernel_rfl) ?_ _
                  refine NoPanic.normal ?_
                  have hk4 : k4 = ((if d0 then [] else [(⟨p1, c1, clo.take k ++ xa :: alo.drop (k + 1), p2, c2, chi.take k ++ xc :: ahi.drop (k + 1)⟩ : BoxV)]) ++ if d1 then [] else [(⟨p3, c3, clo.take k ++ yc :: alo.drop (k + 1), p4, c4, chi.take k ++ ya :: ahi.drop (k + 1)⟩ : BoxV)]).length := by rw [flatB_len] at hl4; omega
                  rw [hk4] at hr6
                  have M6 := Lib.hid (cut_round M4.out hg6 ((hn1.keep' hb2).keep' hb24) ((hn2.keep' hb2).keep' hb24) (hn3.keep' hb24) (hn4.keep' hb24) (by have := hbw.size; simp; omega) (by have := hbw.size; have := hb1.size; simp at *; omega) (by rw [← HXA.out, ← HXC.out]; rfl) (by rw [← HYC.out, ← HYA.out]; rfl) HD0.out HD1.out hr6)
                  have hl6 : Hid ((bs ++ ((if d0 then [] else [(⟨p1, c1, clo.take k ++ xa :: alo.drop (k + 1), p2, c2, chi.take k ++ xc :: ahi.drop (k + 1)⟩ : BoxV)]) ++ if d1 then [] else [(⟨p3, c3, clo.take k ++ yc :: alo.drop (k + 1), p4, c4, chi.take k ++ ya :: ahi.drop (k + 1)⟩ : BoxV)])).length ≤ 2 * (k + 1)) := by have := two_len d0 d1 (⟨p1, c1, clo.take k ++ xa :: alo.drop (k + 1), p2, c2, chi.take k ++ xc :: ahi.drop (k + 1)⟩ : BoxV) ⟨p3, c3, clo.take k ++ yc :: alo.drop (k + 1), p4, c4, chi.take k ++ ya :: ahi.drop (k + 1)⟩; have := HBL.out; rw [Hid, List.length_append]; omega
                  clear hr6 hg6 M4 hk4 ho4 hl4 hb24 hb4 hb2 hb1 hn1 hn2 hn3 hn4
                  go_wp2_with fail
                  go_meet
                  exact ⟨_, _, _, rfl, rfl, hl6, M6⟩
                exact AllReadyH.nil
              exact AllReadyH.nil
            exact AllReadyH.nil
          exact AllReadyH.nil
        exact AllReadyH.nil
      case rest =>
        obtain ⟨wz, cs, v7, rfl, rfl, HBL2, HS2⟩ := hcut
        clear hS hKS hKB HS HBL hbw hsz
        obtain ⟨gc', hgc', -, oc⟩ := HS2.out.cl.out (ne_nil_of LC1.out (by omega))
        cases hgc'
        obtain ⟨gd', hgd', -, od⟩ := HS2.out.ch.out (ne_nil_of LC2.out (by omega))
        cases hgd'
        have hbw := HS2.out.below
        obtain ⟨pr, cr, qr, fr, orr, rr1, rr2⟩ := HS2.out.r
        have ORR := Lib.hid orr
        have R1 := Lib.hid rr1
        have R2 := Lib.hid rr2
        have cc' : wz.cell? ⟨gc, k, none⟩ = some (.int .i64 xc) := by rw [← HXC.out]; exact oc.cell (by rw [List.getElem?_map, nth_get? lk1]; rfl)
        have cd' : wz.cell? ⟨gd, k, none⟩ = some (.int .i64 yc) := by rw [← HYC.out]; exact od.cell (by rw [List.getElem?_map, nth_get? lk2]; rfl)
        have o0 := orr.cell (i := 0) rfl
        have o1 := orr.cell (i := 1) rfl
        have c0 := HS2.out.cv.cell (i := 0) rfl
        have c1 := HS2.out.cv.cell (i := 1) rfl
        clear oc od orr rr1 rr2
        go_upto_region 10 with fail
        go_still_tail 12, (by kernel_rfl)
        change wpList _ _ _ _ _ wz.drew
        have M8 : MinSt w (w5.heap.size + 2) n (.slice (some ⟨ba, oa, none⟩) n c) (.slice (some ⟨bb, ob, none⟩) n f) w5.heap.size (w5.heap.size + 1) (some ⟨gc, 0, none⟩) (some ⟨gd, 0, none⟩) cc fc alo ahi clo chi (k + 1) k v7 (bs ++ cs) wz.drew := HS2.out.keep ((Below.refl _ _).drew)
        have N1 := Lib.hid (R1.out.ints_d hbw (NL.app nc1 n1 k k).i64 (by have := LR1.out; omega))
        have N2 := Lib.hid (R2.out.ints_d hbw (NL.app nc2 n2 k k).i64 (by have := LR2.out; omega))
        clear o0 o1 c0 c1 cc' cd' hbw R1 R2 ORR HS2
        generalize wz.drew = w8 at M8 N1 N2 ⊢
        have M8 := Lib.hid M8
        go_wp2_with fail
        refine (With_is pr qr cr fr _ _ n LR1.out LR2.out k xc yc hlt (by omega) w8 N1.out N2.out).mono ?_
        rintro e9 w9 ⟨⟨p5, c5, p6, c6, rfl, rn1, rn2⟩, hb9⟩
        have M9 := M8.out.keep hb9
        have hle9 := Nat.le_trans (Nat.le_trans M8.out.below.size (Nat.le_refl _)) (Nat.le_refl _)
        have M10 := Lib.hid (M9.cut (pr := p5) (cr := c5) (qr := p6) (fr := c6) rfl (.inr (by rw [ER.out, ← HXC.out, ← append_cons_take lk1] at rn1; exact rn1.mono hle9)) (.inr (by rw [ER2.out, ← HYC.out, ← append_cons_take lk2] at rn2; exact rn2.mono hle9)))
        obtain ⟨pr9, cr9, qr9, fr9, or9, -, -⟩ := M9.r
        have o0 := or9.cell (i := 0) rfl
        have o1 := or9.cell (i := 1) rfl
        have f0 := or9.frozen 0
        have f1 := or9.frozen 1
        clear M9 rn1 rn2 hb9 or9 M8 N1 N2
        go_wp2_with fail
        go_roundw
        case rel => exact ⟨k + 1, v7, bs ++ cs, by omega, by go_num, rfl, HBL2, M10⟩
        case measure => simp [intOf]; omega
    · have hi1 : ¬ (k : Int) < (n : Int) := by omega
      have hke : Hid (k = alo.length) := by have := E1.out; rw [Hid]; omega
      have HRet : Hid (MinusRet alo ahi blo bhi w (.returned v) wr) := minus_yes_ret (by have := E1.out; have := E2.out; omega) (by have := E3.out; have := E4.out; omega) HM.out hke.out (by have := HS.out.blocks; omega) HS.out.out HS.out.rows (by rw [HCL.out, HCH.out]; exact HS.out.val) HS.out.below
      clear HS
      go_wp2_with fail
      go_ret
      exact HRet.out
end Go.Proofs.Ythkfjdhakbjllaa
