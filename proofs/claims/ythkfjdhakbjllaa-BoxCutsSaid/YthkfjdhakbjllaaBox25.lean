/- Boxes that have all indices of a shape: box.in, box.Exact where each box is in the shape and no two meet. No condition beyond what each says. -/
import Derived.Test.YthkfjdhakbjllaaBox24
namespace Go.Proofs.Ythkfjdhakbjllaa
open Go.RowKit Go.Shelf
set_option linter.unusedVariables false
set_option linter.unusedSimpArgs false

def InShape (s : List Int) (b : BoxV) : Prop := RightX b.lo b.hi ∧ b.hi.length = s.length ∧ ∀ j, j < b.hi.length → nth b.hi j ≤ nth s j

set_option maxHeartbeats 2000000 in
theorem In_yes (r : Option Addr) (d : Nat) (s : List Int) (p : Option Addr) (c : Nat) (lo : List Int) (q : Option Addr) (f : Nat) (hi : List Int) (hin : InShape s ⟨p, c, lo, q, f, hi⟩) (w : World) (h : Ints w r s) (h1 : Ints w p lo) (h2 : Ints w q hi) :
    Calls Try.prog 116 #[.slice r s.length d, .agg #[.slice p lo.length c, .slice q hi.length f]] w fun e w' => e = .returned (.bool true) ∧ Below w.heap.size w w' := by
  have b1 := below_alloc w (.cells #[.slice p lo.length c, .slice q hi.length f] 67)
  have h1' := Lib.hid (h1.keep b1)
  have h2' := Lib.hid (h2.keep b1)
  have HR : Hid (rightX lo hi = true) := rightX_yes hin.1
  have hl := hin.2.1
  have hneq : ((hi.length : Int) != (s.length : Int)) = false := by simp [hl]
  have HL := Lib.hid hl
  have HI := Lib.hid hin.2.2
  clear hl hin
  go_enter Try.func116, Try.ntmps116
  go_wp2_with fail
  refine (BoxRight_is p q c f lo hi _ _ rfl rfl true HR.out _ h1'.out h2'.out).mono ?_
  rintro e1 w1 ⟨rfl, hb1⟩
  have q1 : w1.cell? ⟨w.heap.size, 1, none⟩ = some (.slice q hi.length f) := (hb1.cell (p := ⟨w.heap.size, 1, none⟩) (by simp)).trans (by simp [go_sem])
  have hbw := below_t b1 hb1
  have hq := h2.keep hbw
  have hs := h.keep hbw
  have hn := h2.small
  clear h1' h2' hb1 b1 h1 h2
  go_wp2_with fail
  go_loop [21] (fun i => ∃ k : Nat, k ≤ hi.length ∧ i = .int .i64 k) (fun i => hi.length - (intOf i).toNat)
  case atStart => exact ⟨0, Nat.zero_le _, rfl⟩
  case round =>
    obtain ⟨k, hk, rfl⟩ := hrel
    by_cases hlt : k < hi.length
    · have hlt' : k < s.length := by have := HL.out; omega
      obtain ⟨g1, o1, rfl, -, hc⟩ := hq.at hlt
      obtain ⟨g2, o2, rfl, -, hc'⟩ := hs.at hlt'
      have hi1 : (k : Int) < (hi.length : Int) := by omega
      have hi2 : (k : Int) < (s.length : Int) := by omega
      have hd : decide (nth s k < nth hi k) = false := by have := HI.out k hlt; simp; omega
      go_wp2_with fail
      go_round
      case rel => exact ⟨k + 1, by omega, by go_num⟩
      case measure => simp [intOf]; omega
    · have hi1 : ¬ (k : Int) < (hi.length : Int) := by omega
      go_wp2_with fail
      go_ret
      exact ⟨rfl, hbw⟩

/-- the boxes' cells, all together, of the first k -/
def sumC (bs : List BoxV) (k : Nat) : Int := ((bs.take k).map fun b => countX b.lo b.hi).sum
theorem sumC_next {bs : List BoxV} {k : Nat} {b : BoxV} (h : bs[k]? = some b) : sumC bs (k + 1) = sumC bs k + countX b.lo b.hi := by
  unfold sumC
  rw [List.take_add_one, h]
  simp
theorem flatB_at {bs : List BoxV} : ∀ {k : Nat} {b : BoxV}, bs[k]? = some b → (flatB bs)[k * 2]? = some (.slice b.p b.lo.length b.c) ∧ (flatB bs)[k * 2 + 1]? = some (.slice b.q b.hi.length b.f) := by
  induction bs with
  | nil => intro k b h; simp at h
  | cons x bs ih =>
    intro k b h
    have e : flatB (x :: bs) = .slice x.p x.lo.length x.c :: .slice x.q x.hi.length x.f :: flatB bs := rfl
    cases k with
    | zero =>
      have h : x = b := by simpa using h
      subst h
      rw [e]
      exact ⟨rfl, rfl⟩
    | succ k =>
      have h : bs[k]? = some b := by simpa using h
      obtain ⟨h1, h2⟩ := ih h
      rw [e, show (k + 1) * 2 = k * 2 + 1 + 1 by omega]
      exact ⟨by simpa using h1, by simpa using h2⟩
/-- boxes whose rows read as numbers -/
def BoxesI (w : World) (bs : List BoxV) : Prop := ∀ b ∈ bs, Ints w b.p b.lo ∧ Ints w b.q b.hi
theorem BoxesI.keep {a b : World} {bs : List BoxV} (h : BoxesI a bs) (hb : Below a.heap.size a b) : BoxesI b bs := fun x hx => ⟨(h x hx).1.keep hb, (h x hx).2.keep hb⟩

theorem Meet_no (p q p' q' : Option Addr) (c f c' f' : Nat) (alo ahi blo bhi : List Int) (hl : alo.length ≤ 1000000) (ha : alo.length = ahi.length) (hb : blo.length = bhi.length) (hm : ¬ Meets alo ahi blo bhi) (w : World) (h1 : Ints w p alo) (h2 : Ints w q ahi) (h3 : Ints w p' blo) (h4 : Ints w q' bhi) :
    Calls Try.prog 54 #[.agg #[.slice p alo.length c, .slice q ahi.length f], .agg #[.slice p' blo.length c', .slice q' bhi.length f']] w fun e w' => e = .returned (.tuple #[.agg #[.slice none 0 0, .slice none 0 0], .bool false]) ∧ Below w.heap.size w w' := by
  have hret : ∀ e w', MeetRet alo ahi blo bhi w e w' → e = .returned (.tuple #[.agg #[.slice none 0 0, .slice none 0 0], .bool false]) ∧ Below w.heap.size w w' := by
    rintro e w' ⟨h, hb⟩
    rw [if_neg hm] at h
    exact ⟨h, hb⟩
  by_cases hne : alo.length = blo.length
  · exact (Meet_any p q p' q' c f c' f' alo ahi blo bhi hl ha hb (fun hf => (hm ⟨hne, hf⟩).elim) w h1 h2 h3 h4).mono hret
  · exact (Meet_len p q p' q' c f c' f' alo ahi blo bhi hne w h1 h2 h3 h4).mono hret

set_option maxRecDepth 100000 in
set_option maxHeartbeats 8000000 in
theorem Exact_all (r : Option Addr) (d : Nat) (s : List Int) (g cap : Nat) (bs : List BoxV) (hcap : bs.length ≤ cap) (hlen : bs.length ≤ 100) (hin : ∀ b ∈ bs, InShape s b) (h5 : ∀ b ∈ bs, b.lo.length ≤ 5 ∧ NL b.lo ∧ NL b.hi)
    (hap : ∀ i j : Nat, j < i → ∀ x y : BoxV, bs[i]? = some x → bs[j]? = some y → ¬ Meets x.lo x.hi y.lo y.hi) (hsum : ∀ k, k ≤ bs.length → 0 ≤ sumC bs k ∧ sumC bs k ≤ 1000000) (z : Bool) (hz : (sumC bs bs.length == cellsS s) = z) (w : World) (h : Ints w r s) (hc : Cells w (some ⟨g, 0, none⟩) (flatB bs)) (hb : BoxesI w bs) (hg : g < w.heap.size) :
    Calls Try.prog 88 #[.slice r s.length d, .slice (some ⟨g, 0, none⟩) bs.length cap] w fun e w' => e = .returned (.bool z) ∧ Below w.heap.size w w' := by
  have HIN := Lib.hid hin
  have H5 := Lib.hid h5
  have HAP := Lib.hid hap
  have HSUM := Lib.hid hsum
  have HZ := Lib.hid hz
  clear hin h5 hap hsum hz
  go_enter Try.func88, Try.ntmps88
  go_wp2_with fail
  go_loopw [5, 14] (fun n i wr => ∃ k : Nat, k ≤ bs.length ∧ i = .int .i64 k ∧ n = .int .i64 (sumC bs k) ∧ Below w.heap.size w wr) (fun _ i _ => bs.length - (intOf i).toNat)
  case atStart => exact ⟨0, Nat.zero_le _, rfl, rfl, Below.refl _ _⟩
  case round =>
    obtain ⟨k, hk, rfl, rfl, hbr⟩ := hrel
    rename World => W0
    by_cases hlt : k < bs.length
    · have hi1 : (k : Int) < (bs.length : Int) := by omega
      obtain ⟨b, hbk⟩ : ∃ b, bs[k]? = some b := ⟨_, List.getElem?_eq_getElem hlt⟩
      obtain ⟨f1, f2⟩ := flatB_at hbk
      obtain ⟨bp, bc, blo, bq, bf, bhi⟩ := b
      have hcells : ∀ i u, (flatB bs)[i]? = some u → W0.cell? ⟨g, i, none⟩ = some u := by
        intro i u hu
        rcases hc with hc | ⟨b', o', hp, hlt', hcc⟩
        · rw [hc] at hu; simp at hu
        · cases hp
          have := hcc i u hu
          rw [Nat.zero_add] at this
          exact (hbr.cell (p := ⟨g, i, none⟩) hg).trans this
      have c0 := hcells _ _ f1
      have c1 := hcells _ _ f2
      dsimp only at c0 c1
      have hI := HIN.out _ (List.mem_of_getElem? hbk)
      have hII := hb _ (List.mem_of_getElem? hbk)
      obtain ⟨j1, j2⟩ := hII
      dsimp only at j1 j2
      have hs64 := HSUM.out (k + 1) (by omega)
      have hs0 := HSUM.out k hk
      rw [sumC_next hbk] at hs64
      obtain ⟨cv, hcv⟩ : ∃ v, countX blo bhi = v := ⟨_, rfl⟩
      obtain ⟨sv, hsv⟩ : ∃ v, sumC bs k = v := ⟨_, rfl⟩
      have HCV := Lib.hid hcv
      have HSN : Hid (sumC bs (k + 1) = sv + cv) := by rw [Hid, sumC_next hbk, hsv]; show sv + countX blo bhi = _; rw [hcv]
      dsimp only at hs64
      rw [hsv] at hs0
      rw [hsv, hcv] at hs64
      rw [hsv]
      obtain ⟨h5a, h5b, h5c⟩ := H5.out _ (List.mem_of_getElem? hbk)
      dsimp only at h5a h5b h5c
      have hll := hI.1.1
      dsimp only at hll
      have HLL := Lib.hid hll
      have hV : Hid (FullX blo bhi → vol blo bhi blo.length ≤ 9000000000000000000) := h5b.vol h5c (by omega) h5a
      have hba := below_alloc W0 (.cells #[.slice bp blo.length bc, .slice bq bhi.length bf] 67)
      have hs' := Lib.hid ((h.keep hbr).keep hba)
      have J1 := Lib.hid ((j1.keep hbr).keep hba)
      have J2 := Lib.hid ((j2.keep hbr).keep hba)
      have hbz := below_t hbr hba
      have HB5 := Lib.hid h5b
      have HC5 := Lib.hid h5c
      have HIn := Lib.hid hI
      clear hcv hsv hll h5b h5c hcells f1 f2 hI hba
      go_wp2_with fail
      refine (In_yes r d s bp bc blo bq bf bhi HIn.out _ hs'.out J1.out J2.out).mono ?_
      rintro e1 w1 ⟨rfl, hb1⟩
      have q0 : w1.cell? ⟨W0.heap.size, 0, none⟩ = some (.slice bp blo.length bc) := (hb1.cell (p := ⟨W0.heap.size, 0, none⟩) (by simp)).trans (by simp [go_sem])
      have q1 : w1.cell? ⟨W0.heap.size, 1, none⟩ = some (.slice bq bhi.length bf) := (hb1.cell (p := ⟨W0.heap.size, 1, none⟩) (by simp)).trans (by simp [go_sem])
      have J1 := Lib.hid (J1.out.keep hb1)
      have J2 := Lib.hid (J2.out.keep hb1)
      have hz1 : W0.heap.size < w1.heap.size := by have := hb1.size; simp at this; omega
      have hbz := below_t hbz hb1
      clear c0 c1 hs'
      go_wp2_with fail
      refine (BoxSize_is bp bq bc bf blo bhi _ _ rfl rfl cv HCV.out (by have := HLL.out; omega) hV.out _ J1.out J2.out).mono ?_
      rintro e2 w2 ⟨rfl, hb2⟩
      have q0 := (hb2.cell (p := ⟨W0.heap.size, 0, none⟩) hz1).trans q0
      have q1 := (hb2.cell (p := ⟨W0.heap.size, 1, none⟩) hz1).trans q1
      have J1 := Lib.hid (J1.out.keep hb2)
      have J2 := Lib.hid (J2.out.keep hb2)
      have hz2 : W0.heap.size < w2.heap.size := by have := hb2.size; omega
      have hbz := below_t hbz hb2
      have hkc : (k : Int) ≤ (cap : Int) := by omega
      clear hz1 hb1 hb2
      rename World => W2
      go_wp2_with fail
      go_loopw [31] (fun i wr => ∃ j : Nat, j ≤ k ∧ i = .int .i64 j ∧ Below W2.heap.size W2 wr) (fun i _ => k - (intOf i).toNat)
      case atStart => exact ⟨0, Nat.zero_le _, rfl, Below.refl _ _⟩
      case round =>
        obtain ⟨j, hj, rfl, hbj⟩ := hrel
        by_cases hjl : j < k
        · have hj1 : (j : Int) < (k : Int) := by omega
          obtain ⟨x, hxj⟩ : ∃ x, bs[j]? = some x := ⟨_, List.getElem?_eq_getElem (by omega)⟩
          obtain ⟨f1, f2⟩ := flatB_at hxj
          have HNM := Lib.hid (HAP.out k j hjl _ _ hbk hxj)
          have hXI := HIN.out _ (List.mem_of_getElem? hxj)
          have hXB := hb _ (List.mem_of_getElem? hxj)
          obtain ⟨xp, xc, xlo, xq, xf, xhi⟩ := x
          obtain ⟨j1, j2⟩ := hXB
          dsimp only at j1 j2
          have hlx := hXI.1.1
          dsimp only at hlx
          have HLX := Lib.hid hlx
          have hbj0 := below_t hbz hbj
          have hcells : ∀ i u, (flatB bs)[i]? = some u → wr.cell? ⟨g, i, none⟩ = some u := by
            intro i u hu
            rcases hc with hc | ⟨b', o', hp, hlt', hcc⟩
            · rw [hc] at hu; simp at hu
            · cases hp
              have := hcc i u hu
              rw [Nat.zero_add] at this
              exact (hbj0.cell (p := ⟨g, i, none⟩) hg).trans this
          have c0 := hcells _ _ f1
          have c1 := hcells _ _ f2
          dsimp only at c0 c1
          have q0' := (hbj.cell (p := ⟨W0.heap.size, 0, none⟩) hz2).trans q0
          have q1' := (hbj.cell (p := ⟨W0.heap.size, 1, none⟩) hz2).trans q1
          have hz3 : W0.heap.size < wr.heap.size := by have := hbj.size; omega
          have hba := below_alloc wr (.cells #[.slice xp xlo.length xc, .slice xq xhi.length xf] 67)
          have qa0 := (hba.cell (p := ⟨W0.heap.size, 0, none⟩) hz3).trans q0'
          have qa1 := (hba.cell (p := ⟨W0.heap.size, 1, none⟩) hz3).trans q1'
          have K1 := Lib.hid ((J1.out.keep hbj).keep hba)
          have K2 := Lib.hid ((J2.out.keep hbj).keep hba)
          have X1 := Lib.hid ((j1.keep hbj0).keep hba)
          have X2 := Lib.hid ((j2.keep hbj0).keep hba)
          have hbq := below_t hbj hba
          clear hlx hcells f1 f2 hXI hba q0' q1' hz3
          go_wp2_with fail
          refine (Meet_no bp bq xp xq bc bf xc xf blo bhi xlo xhi (by omega) HLL.out HLX.out HNM.out _ K1.out K2.out X1.out X2.out).mono ?_
          rintro e5 w5 ⟨rfl, hb5⟩
          have hbq2 := below_t (below_t hbq hb5) (below_alloc w5 (.cells #[.slice none 0 0, .slice none 0 0] 67))
          clear c0 c1 qa0 qa1 K1 K2 X1 X2 hb5 hbq hbj hbj0 q0 q1
          go_wp2_with fail
          go_roundw
          case rel => exact ⟨j + 1, by omega, by go_num, hbq2⟩
          case measure => simp [intOf]; omega
        · have hj1 : ¬ (j : Int) < (k : Int) := by omega
          have hbq := below_t hbz hbj
          clear hbz hbj q0 q1
          go_wp2_with fail
          go_roundw
          case rel => exact ⟨k + 1, by omega, by go_num, by rw [HSN.out], hbq⟩
          case measure => simp [intOf]; omega
    · have hi1 : ¬ (k : Int) < (bs.length : Int) := by omega
      have hke : k = bs.length := by omega
      have HSE : Hid ((sumC bs k == cellsS s) = z) := by rw [Hid, hke]; exact HZ.out
      have hs' := h.keep hbr
      obtain ⟨sv, hsv⟩ : ∃ v, sumC bs k = v := ⟨_, rfl⟩
      obtain ⟨cv, hcv⟩ : ∃ v, cellsS s = v := ⟨_, rfl⟩
      have HSE : Hid ((sv == cv) = z) := by rw [← hsv, ← hcv]; exact HSE.out
      have HCV := Lib.hid hcv
      rw [hsv]
      clear hke hsv hcv
      go_wp2_with fail
      have hcell := ShapeCells_any r d s W0 hs'
      rw [HCV.out] at hcell
      refine hcell.mono ?_
      rintro e1 w1 ⟨rfl, hw1⟩
      have hbw : Below w.heap.size w w1 := by subst hw1; exact hbr
      clear hw1 hs' hbr hcell
      cases z with
      | true =>
        have hz : (sv == cv) = true := HSE.out
        go_wp2_with fail
        go_ret
        exact ⟨rfl, hbw⟩
      | false =>
        have hz : (sv == cv) = false := HSE.out
        go_wp2_with fail
        go_ret
        exact ⟨rfl, hbw⟩
end Go.Proofs.Ythkfjdhakbjllaa
