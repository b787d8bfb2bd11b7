/- OdometerKeeps, walked. No condition. -/
import Derived.Test.YthkfjiioekhkhaaLaw04h
namespace Go.Proofs.Ythkfjiioekhkhaa
open Go.RowKit Go.Shelf
set_option linter.unusedVariables false
set_option linter.unusedSimpArgs false
attribute [local go_sem] Oper.semAt_some

/-- a copy in a box: the row is new, the box holds it -/
structure CopyAt (W : World) (X : Nat) (xs : List Int) (p : Option Addr) (c : Nat) : Prop where
  box : Own W X 22 [.slice p xs.length c]
  row : New 0 W p 3 (xs.map (.int .i64))
theorem CopyAt.keep {W Z : World} {X : Nat} {xs : List Int} {p : Option Addr} {c : Nat} (h : CopyAt W X xs p c) (hb : Below W.heap.size W Z) : CopyAt Z X xs p c := ⟨h.box.keep hb h.box.lt, h.row.keep' hb⟩
theorem CopyAt.ints {W : World} {X : Nat} {xs : List Int} {p : Option Addr} {c : Nat} (h : CopyAt W X xs p c) (h64 : ∀ x ∈ xs, I64 x) (hl : xs.length ≤ 1000000) : Ints W p xs := h.row.ints h64 (by omega)
theorem copy_made {W : World} {B : Nat} {xs : List Int} {p : Option Addr} {c : Nat} (h : New B W p 3 (xs.map (.int .i64))) : CopyAt (W.alloc (.cells #[.slice p xs.length c] 22)) W.heap.size xs p c :=
  ⟨Own.made W _ [_] _ rfl, (h.mono (Nat.zero_le _)).keep' (below_alloc _ _)⟩

/-- what holds while a yielded index is written over -/
structure KSt (w9 : World) (N n1 n2 : Nat) (b : Option Nat) (k : Int) (Z : World) (px : Option Addr) (n A : Nat) (zr : World) : Prop where
  below : Below w9.heap.size w9 zr
  box : Own zr w9.heap.size 3 [.int .i64 k]
  kf : KeepsFrom N Z zr
  kp : KpR n1 n2 b Z zr
  row : n = 0 ∨ ∃ (g : Nat) (ys : List Int), px = some ⟨g, 0, none⟩ ∧ A ≤ g ∧ ys.length = n ∧ Own zr g 3 (ys.map (Value.int .i64))
theorem grown_cell (W : World) (a : Addr) (v : Value) : W.grownBy (W.setCell a v) (some a.block) :=
  ⟨rfl, rfl, rfl, by rw [show (W.setCell a v).heap.size = W.heap.size by unfold World.setCell; simp only [Array.size_modify]]; exact Nat.le_refl _, fun k _ hk => Below.heap_setCell _ _ _ k (fun e => hk (by rw [e]))⟩
theorem KSt.set {w9 : World} {N n1 n2 : Nat} {b : Option Nat} {k : Int} {Z : World} {px : Option Addr} {n A : Nat} {zr : World} (h : KSt w9 N n1 n2 b k Z px n A zr) (hA : w9.heap.size < A) (hN : n2 ≤ A) (hb : ∀ g, b = some g → g < A)
    {j : Nat} (hj : j < n) (x : Int) : ∃ g, px = some ⟨g, 0, none⟩ ∧ zr.frozen? ⟨g, j, none⟩ = false ∧ (∃ u, zr.cell? ⟨g, j, none⟩ = some (.int .i64 u)) ∧ KSt w9 N n1 n2 b k Z px n A (zr.setCell ⟨g, j, none⟩ (.int .i64 x)) := by
  rcases h.row with h0 | ⟨g, ys, hp, hg, hy, ho⟩
  · omega
  · refine ⟨g, hp, ho.frozen j, ⟨nth ys j, ho.cell (by rw [List.getElem?_map, nth_get? (by omega)]; rfl)⟩, below_set h.below (by omega) j _, h.box.other (by show g ≠ w9.heap.size; omega) _, h.kf.trans ((KeepsOthers.setCell zr ⟨g, j, none⟩ _).from N), h.kp.trans (KpR.of (grown_cell zr ⟨g, j, none⟩ _) fun r e => ?_), .inr ⟨g, ys.set j x, hp, hg, by rw [List.length_set]; exact hy, ?_⟩⟩
    · cases e
      refine ⟨by show ¬ (n1 ≤ g ∧ g < n2); omega, fun e => ?_⟩
      have := hb g e
      omega
    · rw [List.map_set]
      exact ho.set (by rw [List.length_map]; omega) _
theorem KSt.start {w9 : World} {N n1 n2 : Nat} {b : Option Nat} {k : Int} {Z z : World} {x : RowV} {n A : Nat} (h : Below w9.heap.size w9 Z) (k2 : Own Z w9.heap.size 3 [.int .i64 k]) (hz : Below Z.heap.size Z z) (hx : New A Z x.p 3 (x.v.map (.int .i64))) (hn : x.v.length = n) : KSt w9 N n1 n2 b k Z x.p n A z := by
  refine ⟨below_t h hz, k2.keep hz k2.lt, ⟨hz.size, fun j o _ ho _ => (hz.block j (Array.getElem?_eq_some_iff.1 ho).1).trans ho⟩, ⟨hz.size, fun j _ hj => hz.block j hj⟩, ?_⟩
  rcases hx.keep' hz with h0 | ⟨g, hp, hg, ho⟩
  · exact .inl (by rw [← hn]; simpa using congrArg List.length h0)
  · exact .inr ⟨g, x.v, hp, hg, hn, ho⟩
theorem KSt.count {w9 : World} {N n1 n2 : Nat} {b : Option Nat} {k : Int} {Z : World} {px : Option Addr} {n A : Nat} {zr : World} (h : KSt w9 N n1 n2 b k Z px n A zr) (hn2 : n2 ≤ w9.heap.size) (hb : ∀ g, b = some g → w9.heap.size < g) (v : Int) :
    KeepsFrom N Z (zr.setCell ⟨w9.heap.size, 0, none⟩ (.int .i64 v)) ∧ KpR n1 n2 b Z (zr.setCell ⟨w9.heap.size, 0, none⟩ (.int .i64 v)) ∧ Below w9.heap.size w9 (zr.setCell ⟨w9.heap.size, 0, none⟩ (.int .i64 v)) ∧ Own (zr.setCell ⟨w9.heap.size, 0, none⟩ (.int .i64 v)) w9.heap.size 3 [.int .i64 v] := by
  refine ⟨h.kf.trans ((KeepsOthers.setCell zr ⟨w9.heap.size, 0, none⟩ _).from N), h.kp.trans (KpR.of (grown_cell zr ⟨w9.heap.size, 0, none⟩ _) fun r e => ?_), below_set h.below (Nat.le_refl _) 0 _, h.box.set (i := 0) (by simp) _⟩
  cases e
  refine ⟨by show ¬ (n1 ≤ w9.heap.size ∧ w9.heap.size < n2); omega, fun e => ?_⟩
  have : w9.heap.size < w9.heap.size := hb _ e
  omega
theorem refEq_true (s : List Int) (n m : Nat) (hn : s.length = n) (hm : s.length = m) (a b : Option Addr) (c d : Nat) (w : World) (h : Ints w a s) (h' : Ints w b s) :
    Calls Try.prog 19 #[.slice a n c, .slice b m d] w fun e w' => e = .returned (.bool true) ∧ Below w.heap.size w w' := by
  subst hn hm
  exact RefEqual_is s s true (by simp [eqS]) a b c d w h h'

set_option maxRecDepth 100000 in
set_option maxHeartbeats 4000000 in
theorem OdometerKeeps_law (p : Option Addr) (c : Nat) (lo : List Int) (q : Option Addr) (f : Nat) (hi : List Int) (w : World) (h : Ints w p lo) (h' : Ints w q hi) :
    Calls Try.prog 5 #[.slice p lo.length c, .slice q hi.length f] w fun e w' => e = .returned (.bool true) ∧ Below w.heap.size w w' := by
  have hsm := h.small
  have hsm' := h'.small
  obtain ⟨b, hb⟩ : ∃ b, decide (FewX lo hi 100) = b := ⟨_, rfl⟩
  have HB := Lib.hid hb
  clear hb
  obtain ⟨W, hW⟩ : ∃ W, ((w.alloc (.cells #[.slice p lo.length c] 22)).alloc (.cells #[.slice q hi.length f] 22)).alloc (.cells #[.bool false] 4) = W := ⟨_, rfl⟩
  have hbw : Below w.heap.size w W := by rw [← hW]; exact below_t (below_t (below_alloc _ _) (below_alloc _ _)) (below_alloc _ _)
  have o3 : Own W (w.heap.size + 2) 4 [.bool false] := by rw [← hW]; exact Own.made _ _ [_] _ (by simp)
  have o2 : Own W (w.heap.size + 1) 22 [.slice q hi.length f] := by rw [← hW]; exact (Own.made _ _ [_] _ (by simp)).keep (below_alloc _ _) (by simp)
  have o1 : Own W w.heap.size 22 [.slice p lo.length c] := by rw [← hW]; exact (Own.made w _ [_] _ rfl).keep (below_t (below_alloc _ _) (below_alloc _ _)) (by simp)
  have hWs : W.heap.size = w.heap.size + 3 := by rw [← hW]; simp
  have HW := Lib.hid hW
  clear hW
  refine (callsIn_wide (n := 4)).1 ?_
  refine callsIn_of_wp_marks Try.func5 rfl trivial ?_ rfl
  simp only [Try.ntmps5, List.size_toArray, List.length_cons, List.length_nil, Nat.reduceAdd, Nat.reduceSub, Array.replicate_succ, Array.replicate_zero, List.push_toArray, List.append_toArray, List.nil_append, List.cons_append]
  refine wpIn_wide.2 ?_
  go_wp2_with fail
  first | rw [HW.out] | rw [show w.heap.size + 1 + 1 = w.heap.size + 2 from rfl, HW.out]
  clear HW
  refine (awake04 W).mono ?_
  rintro e1 w1 ⟨rfl, hb1⟩
  have o1 := o1.keep hb1 (by omega)
  have o2 := o2.keep hb1 (by omega)
  have o3 := o3.keep hb1 (by omega)
  have hz1 := hb1.size
  have hbw := below_t hbw hb1
  have c1 := o1.cell (i := 0) rfl
  have c2 := o2.cell (i := 0) rfl
  go_wp2_with fail
  refine (Few_at p q c f lo hi 100 (by omega) b HB.out lo.length hi.length rfl rfl w1 (h.keep hbw) (h'.keep hbw)).mono ?_
  rintro e2 w2 ⟨rfl, hb2⟩
  have o1 := o1.keep hb2 (by omega)
  have o2 := o2.keep hb2 (by omega)
  have o3 := o3.keep hb2 (by omega)
  have hz2 := hb2.size
  have hbw := below_t hbw hb2
  cases b with
  | false =>
    clear c1 c2
    go_wp2_with fail
    refine (awake04 w2).mono ?_
    rintro e3 w3 ⟨rfl, hb3⟩
    have o3 := o3.keep hb3 (by omega)
    have k2 := o3.cell (i := 0) rfl
    have f2 := o3.frozen 0
    have hbz := below_set (below_t hbw hb3) (show w.heap.size ≤ w.heap.size + 2 by omega) 0 (.bool true)
    have k3 := (o3.set (i := 0) (by simp) (.bool true)).cell (i := 0) rfl
    go_wp2_with fail
    refine ⟨_, (by simp [results, Try.results5, go_sem, k3] : (results Try.f5 _).run Try.prog _ = .ok (.bool true) _), rfl, hbz⟩
  | true =>
    have hF : FewX lo hi 100 := of_decide_eq_true HB.out
    have HF := Lib.hid hF
    have h16 := hF.2.1
    have hle := hF.1
    have HLE := Lib.hid hle
    have hcap : lo.length ≤ 1000000 := by omega
    have hcap' : hi.length ≤ 1000000 := by omega
    clear hF c1 c2 hle
    have hlo2 := h.keep hbw
    have c1 := (o1.keep (below_alloc w2 (.cells #[] 3)) o1.lt).cell (i := 0) rfl
    go_upto_region 4 with (at_builtin; refine append_ints rfl (.tmp 21) (.tmp 22) rfl w2.heap.size _ 0 [] rfl (World.ownsRow_lit w2 #[] 0 (Nat.le_refl _) (by decide) rfl) p c lo rfl (hlo2.keep (below_alloc w2 (.cells #[] 3))).1 (by omega) (by simp) ?_; intro v3 w3 q3 g3; rw [Nat.zero_add, List.nil_append] at q3; have hb3 := below_append' (below_alloc w2 _) (World.ownsRow_lit w2 #[] 0 (Nat.le_refl _) (by decide) rfl) g3; obtain ⟨p3, c3, hv3, n3⟩ := ints_new q3; subst hv3; clear q3 g3)
    have hbx := below_t hb3 (below_alloc w3 (.cells #[.slice p3 lo.length c3] 22))
    have ca := copy_made (c := c3) n3
    have hz3 := hb3.size
    obtain ⟨w4, hw4⟩ : ∃ w4, w3.alloc (.cells #[.slice p3 lo.length c3] 22) = w4 := ⟨_, rfl⟩
    obtain ⟨X5, hX5⟩ : ∃ X5, w3.heap.size = X5 := ⟨_, rfl⟩
    rw [hw4] at hbx ca
    rw [hX5] at ca hz3
    rw [hw4, hX5]
    clear hw4 hX5 n3 hb3 c1
    have o1 := o1.keep hbx (by omega)
    have o2 := o2.keep hbx (by omega)
    have o3 := o3.keep hbx (by omega)
    have hbw := below_t hbw hbx
    have hz4 := hbx.size
    have hl5 := ca.box.lt
    have hhi4 := h'.keep hbw
    clear hbx hlo2
    have c2 := (o2.keep (below_alloc w4 (.cells #[] 3)) o2.lt).cell (i := 0) rfl
    go_upto_region 5 with (at_builtin; refine append_ints rfl (.tmp 24) (.tmp 25) rfl w4.heap.size _ 0 [] rfl (World.ownsRow_lit w4 #[] 0 (Nat.le_refl _) (by decide) rfl) q f hi rfl (hhi4.keep (below_alloc w4 (.cells #[] 3))).1 (by omega) (by simp) ?_; intro v5 w5 q5 g5; rw [Nat.zero_add, List.nil_append] at q5; have hb5 := below_append' (below_alloc w4 _) (World.ownsRow_lit w4 #[] 0 (Nat.le_refl _) (by decide) rfl) g5; obtain ⟨p5, c5, hv5, n5⟩ := ints_new q5; subst hv5; clear q5 g5)
    have hbx := below_t hb5 (below_alloc w5 (.cells #[.slice p5 hi.length c5] 22))
    have cb := copy_made (c := c5) n5
    have hz5 := hb5.size
    obtain ⟨w6, hw6⟩ : ∃ w6, w5.alloc (.cells #[.slice p5 hi.length c5] 22) = w6 := ⟨_, rfl⟩
    obtain ⟨X6, hX6⟩ : ∃ X6, w5.heap.size = X6 := ⟨_, rfl⟩
    rw [hw6] at hbx cb
    rw [hX6] at cb hz5
    rw [hw6, hX6]
    clear hw6 hX6 n5 hb5 c2
    have o1 := o1.keep hbx (by omega)
    have o2 := o2.keep hbx (by omega)
    have o3 := o3.keep hbx (by omega)
    have ca := ca.keep hbx
    have hbw := below_t hbw hbx
    have hz6 := hbx.size
    have hl6 := cb.box.lt
    have c1 := o1.cell (i := 0) rfl
    have c2 := o2.cell (i := 0) rfl
    have HBT := Lib.hid (RefBetween_any p q c f lo hi (by have := HLE.out; omega) hcap HF.out.2.2.1 (few_bound (by omega) (by omega) HF.out) w6 (h.keep hbw) (h'.keep hbw))
    clear hbx hhi4
    go_wp2_with fail
    refine HBT.out.mono ?_
    rintro e7 w7 ⟨⟨pw, cw, rs, rfl, hrows, hrv⟩, hb7⟩
    have o1 := o1.keep hb7 (by omega)
    have o2 := o2.keep hb7 (by omega)
    have o3 := o3.keep hb7 (by omega)
    have ca := ca.keep hb7
    have cb := cb.keep hb7
    have hbw := below_t hbw hb7
    have hz7 := hb7.size
    clear c1 c2 hb7 HBT
    go_upto_region 6 with fail
    have hbx := below_alloc w7 (.cells #[.slice pw rs.length cw] 25)
    have oW : Own (w7.alloc (.cells #[.slice pw rs.length cw] 25)) w7.heap.size 25 [.slice pw rs.length cw] := Own.made _ _ [_] _ rfl
    obtain ⟨w8, hw8⟩ : ∃ w8, w7.alloc (.cells #[.slice pw rs.length cw] 25) = w8 := ⟨_, rfl⟩
    obtain ⟨X7, hX7⟩ : ∃ X7, w7.heap.size = X7 := ⟨_, rfl⟩
    have hX7' : w7.heap.size ≤ X7 := by omega
    rw [hw8] at hbx oW
    rw [hX7] at oW
    rw [hw8, hX7]
    clear hw8 hX7
    have o1 := o1.keep hbx (by omega)
    have o2 := o2.keep hbx (by omega)
    have o3 := o3.keep hbx (by omega)
    have ca := ca.keep hbx
    have cb := cb.keep hbx
    have hrows := hrows.keep hbx
    have hbw := below_t hbw hbx
    have hz8 := hbx.size
    have hl7 := oW.lt
    have hla := ca.box.lt
    have hlb := cb.box.lt
    have k5 := ca.box.cell (i := 0) rfl
    have k6 := cb.box.cell (i := 0) rfl
    clear hbx
    have ia := ca.ints h.i64 hcap
    have ib := cb.ints h'.i64 hcap'
    go_wp2_with fail
    refine (Between_any p3 p5 c3 c5 lo hi lo.length hi.length rfl rfl hcap hcap' w8 ia ib).mono ?_
    rintro e9 w9 ⟨rfl, ⟨p1, p2, c1, c2, hR⟩, hb9⟩
    have HR := Lib.hid hR
    have o1 := o1.keep hb9 (by omega)
    have o2 := o2.keep hb9 (by omega)
    have o3 := o3.keep hb9 (by omega)
    have oW := oW.keep hb9 hl7
    have ca := ca.keep hb9
    have cb := cb.keep hb9
    have hrows := hrows.keep hb9
    have hbw := below_t hbw hb9
    have hz9 := hb9.size
    have heq := run_eql_seq
    clear hR k5 k6 ia ib hb9
    go_wp2_with fail
    obtain ⟨L, hL⟩ : ∃ L, betX lo hi = L := ⟨_, rfl⟩
    have HL := Lib.hid hL
    have HOK := Lib.hid (few_ok HF.out h.i64 h'.i64)
    have HLN := Lib.hid (bet_bound (by omega) (by omega) HF.out)
    have HRV : Hid (rs.map RowV.v = L) := by rw [Hid, hrv, hL]
    have HRW := Lib.hid hrows
    have HCA := Lib.hid ca
    have HCB := Lib.hid cb
    have HOW := Lib.hid oW
    have HO1 := Lib.hid o1
    have HO2 := Lib.hid o2
    have HO3 := Lib.hid o3
    have hrl : rs.length ≤ 1000000 := by have e := congrArg List.length HRV.out; rw [List.length_map, ← hL] at e; have := HLN.out; omega
    have oK : Own (w9.alloc (.cells #[.int .i64 0] 3)) w9.heap.size 3 [.int .i64 0] := Own.made _ _ [_] _ rfl
    have hzl : (w9.alloc (.cells #[.int .i64 0] 3)).heap.size = w9.heap.size + 1 := by simp
    have hbl := below_alloc w9 (.cells #[.int .i64 0] 3)
    have hRl := HR.out.grown (grown_of_below hbl) (fun g e => by cases e)
    obtain ⟨wl, hwl⟩ : ∃ wl, w9.alloc (.cells #[.int .i64 0] 3) = wl := ⟨_, rfl⟩
    rw [hwl] at oK hzl hbl hRl
    rw [hwl]
    clear hwl hL hrv hrows ca cb oW o1 o2 o3 HR
    have hl1 := HO1.out.lt
    have hlp := HCA.out.box.lt
    have hlq := HCB.out.box.lt
    have hlw := HOW.out.lt
    refine wpIn_wide.1 (wpIn_rangeFunc_odo (n := 4) (by omega) HOK.out L HL.out hRl rfl rfl
      (fun b pre Z => Below w9.heap.size w9 Z ∧ Own Z w9.heap.size 3 [.int .i64 pre.length]) (fun _ _ _ _ => False) ?_ (fun _ _ _ _ _ _ hs _ _ => hs) ?_ ?a1 ?assign ?body ?done ?stop)
    case assign =>
      intro l x Z K hK
      gi_wp2
      exact hK
    · rintro b pre A B row ⟨k1, k2⟩ hg hr
      exact ⟨k1.grown hg k1.size (fun k e => by have := (hr k e).1; omega), k2.block (hg.block _ k2.lt (fun e => by have := (hr _ e.symm).1; omega))⟩
    · rintro b A hb hg
      exact ⟨hbl.grown hg hbl.size (fun k e => by cases e), oK.block (hg.block _ oK.lt (by simp))⟩
    case body =>
      rintro l b pre x A Z hb ⟨k1, k2⟩ hAZ ⟨hl1', hl2, hl3, o, ho1, ho2⟩ hmap hlen hnew
      have k1 := k1.grown hAZ k1.size fun k e => by cases e; omega
      have k2 := k2.block (hAZ.block _ k2.lt (fun e => by cases e; omega))
      have hxk : L[pre.length]? = some x.v := by
        have := congrArg (fun l => l[pre.length]?) hmap
        rw [List.getElem?_map, List.getElem?_append_right (Nat.le_refl _), Nat.sub_self] at this
        rw [List.getElem?_take_of_lt (by omega)] at this
        exact this.symm
      have hplr : pre.length < rs.length := by have e := congrArg List.length HRV.out; rw [List.length_map] at e; omega
      obtain ⟨r, hr⟩ : ∃ r, rs[pre.length]? = some r := ⟨_, List.getElem?_eq_getElem hplr⟩
      have hrx : r.v = x.v := by
        have := row_of HRV.out hr
        rw [hxk] at this
        exact (Option.some.inj this).symm
      rw [← HL.out] at hxk
      obtain ⟨x1, x2, -⟩ := bet_ok HOK.out (List.mem_of_getElem? hxk)
      have hxi : Ints Z x.p x.v := hnew.ints x2 (by omega)
      obtain ⟨⟨bw, hbw1, hbw2, kw⟩, nw⟩ := HRW.out.at hr
      subst hbw1
      rw [hrx] at kw nw
      have iw : Ints w9 r.p x.v := nw.ints x2 (by omega)
      have HXN := Lib.hid hnew
      have HB2 := Lib.hid hb
      have HAZ := Lib.hid hAZ.size
      have HIW := Lib.hid iw
      have hxl : x.v.length ≤ 1000000 := by omega
      have hxc : x.cell = .slice x.p x.v.length x.c := rfl
      have hp1 : (pre.length : Int) < (rs.length : Int) := by omega
      have m9 := k2.cell (i := 0) rfl
      have mW := (HOW.out.keep k1 hlw).cell (i := 0) rfl
      have mw := (k1.cell (p := ⟨bw, pre.length, none⟩) hbw2).trans kw
      have hdd : 1 ≤ 4 - 1 - 1 := by omega
      clear hmap hlen hnew hAZ ho1 ho2 hb hxk hr hrx nw iw
      rw [hxc]
      gi_wp2
      refine ⟨trivial, (CallsIn.inRound l (callsIn_wide.2 (refEq_true x.v lo.length lo.length x1 x1 _ _ _ _ Z hxi (HIW.out.keep k1)))).mono ?_⟩
      rintro e10 z1 ⟨rfl, hq1⟩
      have j1 := below_t k1 hq1
      have ma := (HCA.out.box.keep j1 hlp).cell (i := 0) rfl
      have mb := (HO1.out.keep j1 hl1).cell (i := 0) rfl
      clear mw mW m9
      gi_wp2
      refine ⟨trivial, (CallsIn.inRound l (callsIn_wide.2 (refEq_true lo lo.length lo.length rfl rfl _ _ _ _ z1 ((HCA.out.keep j1).ints h.i64 hcap) (h.keep (below_t hbw j1))))).mono ?_⟩
      rintro e11 z2 ⟨rfl, hq2⟩
      have j2 := below_t j1 hq2
      have hq2 := below_t hq1 hq2
      have na := (HCB.out.box.keep j2 hlq).cell (i := 0) rfl
      have nb := (HO2.out.keep j2 HO2.out.lt).cell (i := 0) rfl
      clear ma mb hq1 j1
      gi_wp2
      refine ⟨trivial, (CallsIn.inRound l (callsIn_wide.2 (refEq_true hi hi.length hi.length rfl rfl _ _ _ _ z2 ((HCB.out.keep j2).ints h'.i64 hcap') (h'.keep (below_t hbw j2))))).mono ?_⟩
      rintro e12 z3 ⟨rfl, hq3⟩
      have j3 := below_t j2 hq3
      have hq3 := below_t hq2 hq3
      clear na nb hq2 j2
      gi_wp2
      have hA9 : w9.heap.size < A.heap.size := by omega
      have HST := Lib.hid (KSt.start (N := wl.heap.size) (n1 := w8.heap.size) (n2 := w9.heap.size) (b := b) (x := x) k1 k2 hq3 HXN.out x1)
      have HBb : Hid (∀ g, b = some g → g < A.heap.size) := fun g e => (HB2.out g e).2
      have HBc : Hid (∀ g, b = some g → w9.heap.size < g) := fun g e => by have := (HB2.out g e).1; omega
      clear hq3 j3 HXN HB2 hxi k1 k2
      gi_loopw [11] (fun j zr => ∃ i : Nat, i ≤ lo.length ∧ j = .int .i64 i ∧ Hid (KSt w9 wl.heap.size w8.heap.size w9.heap.size b (pre.length : Int) Z x.p lo.length A.heap.size zr)) (fun j _ => lo.length - (intOf j).toNat)
      case atStart => exact ⟨0, Nat.zero_le _, rfl, HST.out⟩
      case round =>
        obtain ⟨i, hi, rfl, HS⟩ := hrel
        clear HST
        by_cases hlt : i < lo.length
        · have hi1 : (i : Int) < (lo.length : Int) := by omega
          obtain ⟨g, hg, fg, ⟨u, cg⟩, hset⟩ := HS.out.set hA9 (by omega) HBb.out hlt 77
          have HSET := Lib.hid hset
          have HG := Lib.hid hg
          clear hset
          rw [hg]
          clear hg
          gi_wp2
          go_roundw
          case rel => exact ⟨i + 1, by omega, by go_num, HG.out ▸ HSET.out⟩
          case measure => simp [intOf]; omega
        · have hi1 : ¬ (i : Int) < (lo.length : Int) := by omega
          have m9 := HS.out.box.cell (i := 0) rfl
          have f9 := HS.out.box.frozen 0
          have HCT := Lib.hid (HS.out.count (Nat.le_refl _) HBc.out ((pre.length : Int) + 1))
          gi_wp2
          exact ⟨hzl ▸ HCT.out.1, HCT.out.2.1, HCT.out.2.2.1, by rw [List.length_append]; exact HCT.out.2.2.2⟩
    case done =>
      rintro D b xs Z hD hmap ⟨k1, k2⟩ hK
      have hxs : xs.length = rs.length := by
        have e := congrArg List.length hmap
        have e2 := congrArg List.length HRV.out
        rw [List.length_map] at e e2
        omega
      rw [hxs] at k2
      have m9 := k2.cell (i := 0) rfl
      have mW := (HOW.out.keep k1 hlw).cell (i := 0) rfl
      have o3z := HO3.out.keep k1 HO3.out.lt
      have m3 := o3z.cell (i := 0) rfl
      have f3 := o3z.frozen 0
      have hbz := (below_set (below_t hbw k1) (show w.heap.size ≤ w.heap.size + 2 by omega) 0 (.bool true)).grown (grownBy_putObj' (Z.setCell ⟨w.heap.size + 2, 0, none⟩ (.bool true)) D (.deferred none)) (below_set (below_t hbw k1) (show w.heap.size ≤ w.heap.size + 2 by omega) 0 (.bool true)).size (fun k e => by cases e; omega)
      have hKz : (Z.setCell ⟨w.heap.size + 2, 0, none⟩ (.bool true)).heap[D]? = some (.deferred (some [])) := (Below.heap_setCell Z ⟨w.heap.size + 2, 0, none⟩ (.bool true) D (show D ≠ w.heap.size + 2 by have := HO3.out.lt; omega)).trans hK
      have ow5 := ((o3z.set (i := 0) (by simp) (.bool true)).grown (grownBy_putObj' _ D (.deferred none)) (show some (w.heap.size + 2) ≠ some D by intro e; cases e; have := HO3.out.lt; omega)).cell (i := 0) rfl
      have HKZ := Lib.hid hKz
      have HBZ := Lib.hid hbz
      have HOW5 := Lib.hid ow5
      have hceq : ((rs.length : Int) == (rs.length : Int)) = true := by simp
      clear hK hKz hbz ow5 hmap k1 k2 hxs o3z
      go_wp2_with fail
      refine ⟨by simp, .inl ⟨_, _, rfl, run_takeDeferred HKZ.out, ?_⟩⟩
      have ow5 := HOW5.out
      exact ⟨_, (by simp [results, Try.results5, go_sem, ow5] : (results Try.f5 _).run Try.prog _ = .ok (.bool true) _), rfl, HBZ.out⟩
    case stop =>
      rintro D c b pre W _ _ _ hf _
      exact hf.elim
end Go.Proofs.Ythkfjiioekhkhaa
