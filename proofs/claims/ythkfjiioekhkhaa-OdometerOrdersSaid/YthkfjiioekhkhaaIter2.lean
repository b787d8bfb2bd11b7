/- The iterator of odometer.Between: its contract. No condition beyond what each says. -/
import Derived.Test.YthkfjiioekhkhaaIter
namespace Go.Proofs.Ythkfjiioekhkhaa
open Go.RowKit Go.Shelf
set_option linter.unusedVariables false
set_option linter.unusedSimpArgs false
attribute [local go_sem] Oper.semAt_some

/-- a range whose indices can be counted -/
structure OdoOk (lo hi : List Int) : Prop where
  len : lo.length = hi.length
  small : lo.length ≤ 1000000
  lo64 : ∀ x ∈ lo, I64 x
  hi64 : ∀ x ∈ hi, I64 x
  vol : FullX lo hi → vol lo hi lo.length ≤ 9000000000000000000
theorem bet_count {lo hi : List Int} (h : OdoOk lo hi) : countX lo hi = ((betX lo hi).length : Int) := by
  unfold betX
  rw [List.length_map]
  exact (allX_count (by have := h.len; omega)).symm
theorem Count_at (p q : Option Addr) (c f : Nat) (lo hi : List Int) (hO : OdoOk lo hi) (x : Nat) (hx : (betX lo hi).length = x) (n m : Nat) (hn : lo.length = n) (hm : hi.length = m) (w : World) (h : Ints w p lo) (h' : Ints w q hi) :
    Calls Try.prog 17 #[.slice p n c, .slice q m f] w fun e w' => e = .returned (.int .i64 (x : Int)) ∧ Below w.heap.size w w' := by
  subst hx hn
  rw [← bet_count hO]
  refine (Count_any p q c f lo hi m hm (by rw [← hm]; have := hO.len; omega) hO.vol w h h').mono fun e w' ⟨he, k, hw⟩ => ⟨he, hw ▸ below_drewN _ _ _⟩
theorem Clone_at (a : Option Addr) (c : Nat) (xs : List Int) (n : Nat) (hn : xs.length = n) (w : World) (h : Ints w a xs) (hl : n ≤ 1000000) :
    Calls Try.prog 39 #[.slice a n c] w fun e w' => (∃ p c', e = .returned (.slice p n c') ∧ New w.heap.size w' p 3 (xs.map (.int .i64))) ∧ Below w.heap.size w w' := by
  subst hn
  exact Clone_any a c xs w h hl
theorem bet_ok {lo hi : List Int} (h : OdoOk lo hi) {a : List Int} (ha : a ∈ betX lo hi) : a.length = lo.length ∧ (∀ x ∈ a, I64 x) ∧ ∀ i, i < lo.length → I64 (nth a i) ∧ nth a i < nth hi i := by
  obtain ⟨h1, h2⟩ := bet_in h.len ha
  have h3 : ∀ i, i < lo.length → I64 (nth a i) ∧ nth a i < nth hi i := fun i hi' => by
    have e1 := h.lo64 _ (nth_mem hi')
    have e2 := h.hi64 _ (nth_mem (xs := hi) (k := i) (by have := h.len; omega))
    have e3 := h2 i hi'
    unfold I64 at e1 e2 ⊢
    omega
  refine ⟨h1, fun x hx => ?_, h3⟩
  obtain ⟨j, hj, rfl⟩ := List.mem_iff_getElem.1 hx
  have := (h3 j (by omega)).1
  simpa [nth, hj] using this
/-- what the index is changed to: the following one, if there is one -/
theorem bet_step {lo hi : List Int} (h : OdoOk lo hi) {k : Nat} {a : List Int} (ha : (betX lo hi)[k]? = some a) : ∃ J X, StopAt lo hi a J ∧ stepX lo a J = X ∧ decide (0 < J) = decide (k + 1 < (betX lo hi).length) ∧ (k + 1 < (betX lo hi).length → (betX lo hi)[k + 1]? = some X) := by
  by_cases hk : k + 1 < (betX lo hi).length
  · obtain ⟨b, hb⟩ : ∃ b, (betX lo hi)[k + 1]? = some b := ⟨_, List.getElem?_eq_getElem hk⟩
    obtain ⟨J, h0, hs, hx⟩ := bet_next h.len ha hb
    exact ⟨J, b, hs, hx, by rw [decide_eq_true h0, decide_eq_true hk], fun _ => hb⟩
  · have hkl := (List.getElem?_eq_some_iff.1 ha).1
    exact ⟨0, _, bet_last h.len ha (by omega), rfl, by rw [decide_eq_false hk]; rfl, fun h => (hk h).elim⟩

theorem all_inj {s : List Int} : ∀ (n : Nat), n ≤ s.length → ∀ (k k' : Nat) (a : List Int), (allX (s.take n))[k]? = some a → (allX (s.take n))[k']? = some a → k = k'
  | 0, _, k, k', a, h, h' => by
    have h1 := (List.getElem?_eq_some_iff.1 h).1
    have h2 := (List.getElem?_eq_some_iff.1 h').1
    simp [allX] at h1 h2
    omega
  | n + 1, hn, k, k', a, h, h' => by
    have e : allX (s.take (n + 1)) = stepA (allX (s.take n)) (nth s n) := by rw [take_nth (xs := s) (k := n) (by omega), allX_snoc]
    rw [e] at h h'
    by_cases hd : 0 < (nth s n).toNat
    · rw [stepA_get hd] at h h'
      obtain ⟨D, hD⟩ : ∃ D, (nth s n).toNat = D := ⟨_, rfl⟩
      rw [hD] at h h'
      cases hq : (allX (s.take n))[k / D]? with
      | none => rw [hq] at h; cases h
      | some r =>
        cases hq' : (allX (s.take n))[k' / D]? with
        | none => rw [hq'] at h'; cases h'
        | some r' =>
          rw [hq] at h
          rw [hq'] at h'
          have e1 := Option.some.inj h
          have e2 := Option.some.inj h'
          obtain ⟨e3, e4⟩ := List.append_inj' (e1.trans e2.symm) rfl
          subst e3
          have e5 := all_inj n (by omega) _ _ _ hq hq'
          have e6 : ((k % D : Nat) : Int) = ((k' % D : Nat) : Int) := (List.cons.inj e4).1
          have e7 := Nat.div_add_mod k D
          have e8 := Nat.div_add_mod k' D
          rw [← e5] at e8
          omega
    · have hnil : stepA (allX (s.take n)) (nth s n) = [] := List.eq_nil_of_length_eq_zero (by rw [stepA_len, show (nth s n).toNat = 0 by omega, Nat.mul_zero])
      rw [hnil] at h
      simp at h
theorem bet_inj {lo hi : List Int} (hl : lo.length = hi.length) {k k' : Nat} {a : List Int} (h : (betX lo hi)[k]? = some a) (h' : (betX lo hi)[k']? = some a) : k = k' := by
  obtain ⟨r, hr, rfl⟩ := bet_get h
  obtain ⟨r', hr', e⟩ := bet_get h'
  have m1 := (allX_mem.1 (List.mem_of_getElem? hr)).1
  have m2 := (allX_mem.1 (List.mem_of_getElem? hr')).1
  rw [dims_len (by omega)] at m1 m2
  have e2 : r = r' := nth_ext (m1.trans m2.symm) fun j hj => by
    have := congrArg (fun l => nth l j) e
    change nth (addX lo r) j = nth (addX lo r') j at this
    rw [addX_nth m1 (by omega), addX_nth m2 (by omega)] at this
    omega
  subst e2
  refine all_inj (s := dimsX lo hi) _ (Nat.le_refl _) k k' r ?_ ?_
  · rw [List.take_length]; exact hr
  · rw [List.take_length]; exact hr'
theorem AtR.same {b : Option Nat} {w : World} {p : Option Addr} {a a' : List Int} (h : AtR b w p a) (h' : AtR b w p a') (hl : a.length = a'.length) : a = a' := by
  rcases h with ⟨rfl, -⟩ | ⟨g, hb, hp, r, ho⟩
  · exact (List.eq_nil_of_length_eq_zero (by simpa using hl.symm)).symm
  · rcases h' with ⟨rfl, -⟩ | ⟨g', hb', hp', r', ho'⟩
    · exact List.eq_nil_of_length_eq_zero (by simpa using hl)
    · rw [hb] at hb'
      cases hb'
      rw [ho] at ho'
      have e : a.map (Value.int .i64) ++ r = a'.map (Value.int .i64) ++ r' := by simpa using ho'
      have := (List.append_inj e (by simpa using hl)).1
      exact (List.map_inj_right (fun x y h => by injection h)).1 this
open Classical in
/-- how many indices are still to come, read off the iterator's own index -/
noncomputable def leftR (lo hi : List Int) (b : Option Nat) (p : Option Addr) (ok : Value) (w : World) : Nat :=
  if h : ok = .bool true ∧ ∃ q : Nat × List Int, (betX lo hi)[q.1]? = some q.2 ∧ AtR b w p q.2 then (betX lo hi).length - (Classical.choose h.2).1 else 0
theorem leftR_no (lo hi : List Int) (b : Option Nat) (p : Option Addr) (w : World) : leftR lo hi b p (.bool false) w = 0 := by
  unfold leftR
  rw [dif_neg]
  rintro ⟨h, -⟩
  cases h
theorem leftR_yes {lo hi : List Int} (hl : lo.length = hi.length) {b : Option Nat} {p : Option Addr} {w : World} {k : Nat} {a : List Int} (h : (betX lo hi)[k]? = some a) (hA : AtR b w p a) : leftR lo hi b p (.bool true) w = (betX lo hi).length - k := by
  have hex : Value.bool true = .bool true ∧ ∃ q : Nat × List Int, (betX lo hi)[q.1]? = some q.2 ∧ AtR b w p q.2 := ⟨rfl, (k, a), h, hA⟩
  unfold leftR
  rw [dif_pos hex]
  obtain ⟨h1, h2⟩ := Classical.choose_spec hex.2
  have l1 := (bet_in hl (List.mem_of_getElem? h)).1
  have l2 := (bet_in hl (List.mem_of_getElem? h1)).1
  have e := h2.same hA (l2.trans l1.symm)
  rw [e] at h1
  rw [bet_inj hl h1 h]

set_option maxRecDepth 100000 in
set_option maxHeartbeats 4000000 in
theorem Between1_in (n : Nat) (hn : 1 ≤ n) (l n1 n2 B1 B2 : Nat) (p1 p2 : Option Addr) (c1 c2 : Nat) (lo hi : List Int) (hO : OdoOk lo hi) (L : List (List Int)) (hL : betX lo hi = L)
    (J Jx : Option Nat → List RowV → World → Prop) (W : World) (hR : RangeAt n1 n2 B1 B2 p1 p2 c1 c2 lo hi W)
    (hJ : ∀ b s A B, (∀ g, b = some g → W.heap.size ≤ g) → J b s A → A.grownBy B b → J b s B)
    (hY : ∀ b pre x A W1, (∀ g, b = some g → W.heap.size ≤ g ∧ g < A.heap.size) → J b pre A → A.grownBy W1 none → (pre ++ [x]).map RowV.v = L.take (pre.length + 1) → pre.length < L.length → New A.heap.size W1 x.p 3 (x.v.map (.int .i64)) →
      YieldAt Fence.wide (n - 1) Try.prog l #[x.cell] W1 fun e W' => (e = .returned (.bool true) ∧ J b (pre ++ [x]) W' ∧ KpR n1 n2 b W1 W') ∨ (e = .returned (.bool false) ∧ Jx b (pre ++ [x]) W'))
    (h0 : ∀ b A, (∀ g, b = some g → W.heap.size ≤ g ∧ g < A.heap.size) → W.grownBy A none → J b [] A) :
    CallsIn Fence.wide n Try.prog 40 #[.func (.yield l) #[] #[], .pointer (some ⟨B1, 0, none⟩), .pointer (some ⟨B2, 0, none⟩)] W fun e W' => (∃ v, e = .returned v) ∧
      ∃ b, (∀ g, b = some g → W.heap.size ≤ g) ∧ ((∃ xs, xs.map RowV.v = L ∧ J b xs W') ∨ (∃ pre, pre ≠ [] ∧ pre.map RowV.v = L.take pre.length ∧ Jx b pre W')) := by
  have hx1 := hR.x1
  have hx2 := hR.x2
  refine callsIn_of_wp Try.func40 rfl trivial ?_ rfl
  simp only [Try.ntmps40, List.size_toArray, List.length_cons, List.length_nil, Nat.reduceAdd, Nat.reduceSub, Array.replicate_succ, Array.replicate_zero, List.push_toArray, List.append_toArray, List.nil_append, List.cons_append]
  have hI1 := hR.r1.ints hO.lo64 hO.small
  have hI2 := hR.r2.ints hO.hi64 (by have := hO.len; have := hO.small; omega)
  have HO := Lib.hid hO
  have HJ := Lib.hid hJ
  have HY := Lib.hid hY
  have HL := Lib.hid hL
  have H0 := Lib.hid h0
  have hle := hR.le
  have hin1 := hR.in1
  have hin2 := hR.in2
  have HR := Lib.hid hR
  have hsm : Hid (lo.length ≤ 1000000) := hO.small
  clear hJ hY hL h0 hR hO
  gi_wp2
  refine ⟨trivial, (callsIn_wide.2 (Clone_at p1 c1 lo lo.length rfl W hI1 hsm.out)).mono ?_⟩
  rintro e1 w1 ⟨⟨pa, ca, rfl, hnew⟩, hb1⟩
  have hx1 := (hb1.cell (p := ⟨B1, 0, none⟩) (by show B1 < W.heap.size; omega)).trans hx1
  have hx2 := (hb1.cell (p := ⟨B2, 0, none⟩) (by show B2 < W.heap.size; omega)).trans hx2
  have hI1 := hI1.keep hb1
  have hI2 := hI2.keep hb1
  have hR1 := Lib.hid (HR.out.grown (grown_of_below hb1) (fun g e => by cases e))
  obtain ⟨b, hb, hA⟩ : ∃ b, (∀ g, b = some g → W.heap.size ≤ g ∧ g < w1.heap.size) ∧ AtR b w1 pa lo := by
    rcases hnew with h | ⟨g, hp, hg, ho⟩
    · exact ⟨none, fun g e => (by cases e), .inl ⟨by simpa using h, rfl⟩⟩
    · exact ⟨some g, fun g' e => by cases e; exact ⟨hg, ho.lt⟩, .inr ⟨g, rfl, hp, ho⟩⟩
  have HB := Lib.hid hb
  have HA := Lib.hid hA
  have H0b := Lib.hid (H0.out b w1 hb (grown_of_below hb1))
  clear hb hA hnew H0
  obtain ⟨N, hN⟩ : ∃ N, L.length = N := ⟨_, rfl⟩
  have HN := Lib.hid hN
  clear hN
  gi_wp2
  refine ⟨trivial, (callsIn_wide.2 (Count_at p1 p2 c1 c2 lo hi HO.out N (by rw [HL.out]; exact HN.out) lo.length hi.length rfl rfl w1 hI1 hI2)).mono ?_⟩
  rintro e2 w2 ⟨rfl, hb2⟩
  gi_wp2
  have hR2 := Lib.hid (hR1.out.grown (grown_of_below hb2) (fun g e => by cases e))
  have HA2 := Lib.hid (HA.out.keep fun k _ hk => hb2.block k hk)
  have HB2 : Hid (∀ g, b = some g → W.heap.size ≤ g ∧ g < w2.heap.size) := fun g e => ⟨(HB.out g e).1, Nat.lt_of_lt_of_le (HB.out g e).2 hb2.size⟩
  have H0c := Lib.hid (HJ.out b [] w1 w2 (fun g e => (HB.out g e).1) H0b.out (grown_up (grown_of_below hb2) b))
  have hsz : W.heap.size ≤ w2.heap.size := Nat.le_trans hb1.size hb2.size
  clear hR1 HA HB H0b hb1 hb2 hI1 hI2 hx1 hx2
  gi_loopw [5] (fun ok wr => ∃ (k : Nat) (o : Bool), k ≤ N ∧ ok = .bool o ∧ Hid (o = decide (k < N)) ∧ Hid (∃ pre : List RowV, pre.length = k ∧ pre.map RowV.v = L.take k ∧ J b pre wr ∧ (k < N → ∃ a, L[k]? = some a ∧ AtR b wr pa a)) ∧ Hid (RangeAt n1 n2 B1 B2 p1 p2 c1 c2 lo hi wr) ∧ w2.heap.size ≤ wr.heap.size) (fun ok wr => leftR lo hi b pa ok wr)
  case atStart =>
    refine ⟨0, _, Nat.zero_le _, rfl, ?_, ⟨[], rfl, rfl, H0c.out, fun h => ⟨lo, ?_, HA2.out⟩⟩, hR2.out, Nat.le_refl _⟩
    · simp [Hid]
    · obtain ⟨a, ha⟩ : ∃ a, L[0]? = some a := ⟨_, List.getElem?_eq_getElem (by have := HN.out; omega)⟩
      have := ha
      rw [← HL.out] at this
      rw [ha, bet_first HO.out.len this]
  case round =>
    obtain ⟨k, o, hk, rfl, HOK, HP, HRR, hsz2⟩ := hrel
    clear hR2 HA2 H0c
    cases o with
    | false =>
      have hkN : ¬ k < N := by have := HOK.out; simpa using this
      gi_wp2
      go_end0
      obtain ⟨pre, hp1, hp2, hJp, -⟩ := HP.out
      refine ⟨⟨_, rfl⟩, b, fun g e => (HB2.out g e).1, .inl ⟨pre, ?_, hJp⟩⟩
      rw [hp2, List.take_of_length_le (by have := HN.out; omega)]
    | true =>
      have hkN : k < N := by have := HOK.out; simpa using this
      obtain ⟨pre, hp1, hp2, hJp, hAt⟩ := HP.out
      obtain ⟨a, hak, hA⟩ := hAt hkN
      have hakb : (betX lo hi)[k]? = some a := by rw [HL.out]; exact hak
      obtain ⟨hal, ha64, halt⟩ := bet_ok HO.out (List.mem_of_getElem? hakb)
      have hIa := Lib.hid (hA.ints ha64 (by have := HO.out.small; omega))
      gi_wp2
      refine ⟨trivial, (callsIn_wide.2 (Clone_at pa ca a lo.length hal wr hIa.out hsm.out)).mono ?_⟩
      rintro e3 w3 ⟨⟨px, cx, rfl, hnew⟩, hb3⟩
      have hmap : (pre ++ [(⟨px, cx, a⟩ : RowV)]).map RowV.v = L.take (k + 1) := by
        rw [List.map_append, hp2, List.take_add_one, hak]
        rfl
      have hbr : ∀ g, b = some g → W.heap.size ≤ g ∧ g < wr.heap.size := fun g e => ⟨(HB2.out g e).1, Nat.lt_of_lt_of_le (HB2.out g e).2 hsz2⟩
      have hy := HY.out b pre ⟨px, cx, a⟩ wr w3 hbr hJp (grown_of_below hb3) (by rw [hp1]; exact hmap) (by rw [hp1, HN.out]; exact hkN) hnew
      have hA3 := Lib.hid (hA.keep fun k _ hk => hb3.block k hk)
      have hR3 := Lib.hid (HRR.out.grown (grown_of_below hb3) (fun g e => by cases e))
      have hsz3 := hb3.size
      simp only [RowV.cell] at hy
      rw [hal] at hy
      obtain ⟨fn, tmps, assign, body, hyr, hrnd⟩ := hy
      have HRN := Lib.hid hrnd
      have HAw := Lib.hid hA
      have HMAP := Lib.hid hmap
      clear hrnd hmap hnew hJp hA HP HRR HOK hAt hp2
      gi_wp2

      refine HRN.out.mono ?_
      rintro e4 w4 (⟨rfl, hJ4, hk4⟩ | ⟨rfl, hJx4⟩)
      · obtain ⟨jj, X, hst, hX, hdec, hnx⟩ := bet_step HO.out hakb
        have hR4 := hR3.out.kp hk4
        have hA4 := hA3.out.keep (fun j hj hlt => hk4.2 j (.inr hj) hlt)
        have hx14 := hR4.x1
        have hx24 := hR4.x2
        rw [HL.out, HN.out] at hdec
        obtain ⟨o, ho⟩ : ∃ o, decide (k + 1 < N) = o := ⟨_, rfl⟩
        have hstep := Step_at hR4 b pa ca a jj HO.out.len hal HO.out.small hst HO.out.lo64 HO.out.hi64 halt (fun g e => Nat.le_trans HR.out.le (HB2.out g e).1) hA4 o X lo.length hi.length (hdec.trans ho) hX rfl rfl
        have HST := Lib.hid hstep
        have HNX := Lib.hid hnx
        have HO2 := Lib.hid ho
        have hR4' := Lib.hid hR4
        have hJ4' := Lib.hid hJ4
        have hsz4 := hk4.1
        clear hstep hdec hst hX hA4 hR4 ho hnx hJ4 hk4
        gi_wp2
        refine ⟨trivial, (callsIn_wide.2 HST.out).mono ?_⟩
        rintro e5 w5 ⟨rfl, hg5, hA5⟩
        gi_wp2
        go_roundw
        case rel =>
          refine ⟨k + 1, o, by omega, rfl, HO2.out.symm, ⟨pre ++ [⟨px, cx, a⟩], by rw [List.length_append, hp1]; rfl, HMAP.out, HJ.out b _ w4 w5 (fun g e => (HB2.out g e).1) hJ4'.out hg5, fun hk1 => ⟨X, ?_, hA5⟩⟩, hR4'.out.grown hg5 (fun g e => Nat.le_trans HR.out.le (HB2.out g e).1), Nat.le_trans (Nat.le_trans hsz2 hsz3) (Nat.le_trans hsz4 hg5.size)⟩
          have := HNX.out (by rw [HL.out, HN.out]; exact hk1)
          rw [HL.out] at this
          exact this
        case measure =>
          show leftR lo hi b pa (.bool o) w5 < leftR lo hi b pa (.bool true) wr
          rw [leftR_yes HO.out.len hakb HAw.out, HL.out, HN.out]
          cases o with
          | false => rw [leftR_no]; omega
          | true =>
            have hk1 : k + 1 < N := by simpa using HO2.out
            rw [leftR_yes HO.out.len (HNX.out (by rw [HL.out, HN.out]; exact hk1)) hA5, HL.out, HN.out]
            omega
      · gi_wp2
        refine bodyPost_ret (results_none rfl _ _ _) rfl ?_
        refine ⟨⟨_, rfl⟩, b, fun g e => (HB2.out g e).1, .inr ⟨pre ++ [⟨px, cx, a⟩], by simp, ?_, hJx4⟩⟩
        rw [HMAP.out, List.length_append, hp1]
        rfl
end Go.Proofs.Ythkfjiioekhkhaa
