/- Lists of bindings in memory; the reference's Few of layer 11. No condition beyond what each says. -/
import Derived.Test.YtolkgjbljdmadaaRef05
import Derived.Test.YtolkgjbljdmadaaName2
import Derived.Laws.Strings
namespace Go.Proofs.Ytolkgjbljdmadaa
open Go.RowKit Go.Shelf
set_option linter.unusedVariables false
set_option linter.unusedSimpArgs false

theorem name_eq {a b : ByteArray} (h : a = b) : (a.toList == b.toList) = true := by subst h; simp
theorem name_ne {a b : ByteArray} (h : a ≠ b) : (a.toList == b.toList) = false := by
  cases hx : (a.toList == b.toList) with
  | false => rfl
  | true =>
    rw [beq_iff_eq, ByteArray.toList_eq, ByteArray.toList_eq] at hx
    refine absurd ?_ h
    obtain ⟨a⟩ := a
    obtain ⟨b⟩ := b
    exact congrArg ByteArray.mk (Array.ext' hx)

/-- a binding as it lies in memory -/
structure BV where
  name : ByteArray
  sp : Option Addr
  sc : Nat
  s : List Int
  dp : Option Addr
  dc : Nat
  d : List Int
instance : Inhabited BV := ⟨⟨⟨#[]⟩, none, 0, [], none, 0, []⟩⟩
def BV.cells (b : BV) : List Value := [.string b.name, .slice b.sp b.s.length b.sc, .slice b.dp b.d.length b.dc]
def rowsB (bs : List BV) : List Value := bs.flatMap BV.cells
/-- element k -/
def bth (bs : List BV) (k : Nat) : BV := bs.getD k default

theorem rowsB_cons (b : BV) (bs : List BV) : rowsB (b :: bs) = b.cells ++ rowsB bs := by simp [rowsB]
theorem rowsB_append (bs cs : List BV) : rowsB (bs ++ cs) = rowsB bs ++ rowsB cs := by simp [rowsB]
theorem rowsB_len (bs : List BV) : (rowsB bs).length = 3 * bs.length := by
  induction bs with
  | nil => rfl
  | cons b bs ih =>
    rw [rowsB_cons, List.length_append, ih, List.length_cons]
    simp [BV.cells]
    omega
theorem bth_get? {bs : List BV} {k : Nat} (hk : k < bs.length) : bs[k]? = some (bth bs k) := by
  unfold bth
  rw [List.getD_eq_getElem?_getD, List.getElem?_eq_getElem hk]
  rfl
theorem bth_mem {bs : List BV} {k : Nat} (hk : k < bs.length) : bth bs k ∈ bs := List.mem_of_getElem? (bth_get? hk)
theorem rowsB_at {bs : List BV} {k j : Nat} (hk : k < bs.length) (hj : j < 3) : (rowsB bs)[k * 3 + j]? = (bth bs k).cells[j]? := by
  induction bs generalizing k with
  | nil => simp at hk
  | cons b bs ih =>
    rw [rowsB_cons]
    cases k with
    | zero => rw [List.getElem?_append_left (by simp [BV.cells]; omega)]; simp [bth]
    | succ k =>
      have hl : b.cells.length = 3 := rfl
      rw [List.getElem?_append_right (by rw [hl]; omega), hl, show (k + 1) * 3 + j - 3 = k * 3 + j by omega, ih (by simpa using hk)]
      simp [bth]

structure Binds (w : World) (p : Option Addr) (bs : List BV) : Prop where
  cells : Cells w p (rowsB bs)
  vals : ∀ b ∈ bs, Ints w b.sp b.s ∧ Ints w b.dp b.d ∧ b.name.size ≤ 9223372036854775807
  small : bs.length ≤ 9223372036854775807
theorem Binds.keep {w w' : World} {p : Option Addr} {bs : List BV} (h : Binds w p bs) (hb : Below w.heap.size w w') : Binds w' p bs :=
  ⟨h.cells.keep hb, fun b hb' => ⟨(h.vals b hb').1.keep hb, (h.vals b hb').2.1.keep hb, (h.vals b hb').2.2⟩, h.small⟩
theorem Binds.at {w : World} {p : Option Addr} {bs : List BV} (h : Binds w p bs) {k : Nat} (hk : k < bs.length) :
    ∃ g off, p = some ⟨g, off, none⟩ ∧ g < w.heap.size ∧ w.cell? ⟨g, off + k * 3, none⟩ = some (.string (bth bs k).name) ∧ w.cell? ⟨g, off + k * 3 + 1, none⟩ = some (.slice (bth bs k).sp (bth bs k).s.length (bth bs k).sc) ∧ w.cell? ⟨g, off + k * 3 + 2, none⟩ = some (.slice (bth bs k).dp (bth bs k).d.length (bth bs k).dc) := by
  rcases h.cells with h' | ⟨g, off, hp, hlt, hc⟩
  · have := rowsB_len bs
    rw [h'] at this
    simp at this
    omega
  · refine ⟨g, off, hp, hlt, ?_, ?_, ?_⟩
    · exact hc (k * 3 + 0) _ (by rw [rowsB_at hk (by omega)]; rfl)
    · exact hc (k * 3 + 1) _ (by rw [rowsB_at hk (by omega)]; rfl)
    · exact hc (k * 3 + 2) _ (by rw [rowsB_at hk (by omega)]; rfl)

theorem all_take {α : Type} [Inhabited α] {p : α → Bool} {l : List α} {k : Nat} {x : α} (hk : l[k]? = some x) (h : (l.take k).all p = true) (hp : p x = true) : (l.take (k + 1)).all p = true := by
  rw [List.take_add_one, hk, List.all_append, h]
  simpa using hp
theorem all_no {α : Type} {p : α → Bool} {l : List α} {k : Nat} {x : α} (hk : l[k]? = some x) (hp : p x = false) : l.all p = false := by
  cases h : l.all p with
  | false => rfl
  | true =>
    have := List.all_eq_true.1 h x (List.mem_of_getElem? hk)
    rw [hp] at this
    cases this
theorem all_end {α : Type} {p : α → Bool} {l : List α} {k : Nat} (hk : l.length ≤ k) (h : (l.take k).all p = true) : l.all p = true := by
  rw [List.take_of_length_le hk] at h
  exact h

def fewOne (n : Int) (b : BV) : Bool := (decide (b.s.length ≤ 100) && decide ((b.d.length : Int) ≤ n)) && decide (b.name.size ≤ 100)
def fewB (bs : List BV) (n : Int) : Bool := decide (bs.length ≤ 12) && bs.all (fewOne n)

theorem RefFew_is (p q : Option Addr) (c f : Nat) (s d : List Int) (n : Int) (r : Bool) (hr : (decide (s.length ≤ 100) && decide ((d.length : Int) ≤ n)) = r) (w : World) (h : Ints w p s) (h' : Ints w q d) :
    Calls Try.prog 24 #[.agg #[.slice p s.length c, .slice q d.length f], .int .i64 n] w fun e w' => e = .returned (.bool r) ∧ Below w.heap.size w w' := hr ▸ RefFew_any p q c f s d n w h h'

set_option maxHeartbeats 2000000 in
theorem Few_any (p : Option Addr) (c : Nat) (bs : List BV) (n : Int) (w : World) (h : Binds w p bs) :
    Calls Try.prog 22 #[.slice p bs.length c, .int .i64 n] w fun e w' => e = .returned (.bool (fewB bs n)) ∧ Below w.heap.size w w' := by
  by_cases hl : 12 < bs.length
  · have e1 : fewB bs n = false := by unfold fewB; rw [decide_eq_false (by omega)]; rfl
    have hl' : (12 : Int) < (bs.length : Int) := by omega
    rw [e1]
    clear e1
    go_enter Try.func22, Try.ntmps22
    go_wp2_with fail
    go_ret
    exact ⟨rfl, Below.refl _ _⟩
  · have e1 : fewB bs n = bs.all (fewOne n) := by unfold fewB; rw [decide_eq_true (by omega)]; rfl
    have hl' : ¬ (12 : Int) < (bs.length : Int) := by omega
    have hl2 : bs.length ≤ 12 := by omega
    rw [e1]
    clear e1
    go_enter Try.func22, Try.ntmps22
    go_wp2_with fail
    go_loopw [5] (fun i wr => ∃ k : Nat, k ≤ bs.length ∧ i = .int .i64 k ∧ Below w.heap.size w wr ∧ Hid ((bs.take k).all (fewOne n) = true)) (fun i _ => bs.length - (intOf i).toNat)
    case atStart => exact ⟨0, Nat.zero_le _, rfl, Below.refl _ _, rfl⟩
    case round =>
      obtain ⟨k, hk, rfl, hbw, hI⟩ := hrel
      by_cases hlt : k < bs.length
      · have hB := h.keep hbw
        obtain ⟨g, off, rfl, hg0, c0, c1, c2⟩ := hB.at hlt
        obtain ⟨i1, i2, i3⟩ := hB.vals _ (bth_mem hlt)
        have hki : (k : Int) < (bs.length : Int) := by omega
        have hg := bth_get? hlt
        obtain ⟨b, hb⟩ : ∃ b, bth bs k = b := ⟨_, rfl⟩
        rw [hb] at c0 c1 c2 i1 i2 i3 hg
        have HG := Lib.hid hg
        clear hb hg
        cases hx : (decide (b.s.length ≤ 100) && decide ((b.d.length : Int) ≤ n)) with
        | false =>
          have HX := Lib.hid hx
          have HN := Lib.hid (all_no (p := fewOne n) HG.out (by unfold fewOne; rw [hx]; rfl))
          clear hx
          go_wp2_with fail
          refine (RefFew_is _ _ _ _ _ _ n false HX.out _ i1 i2).mono ?_
          rintro e1 w1 ⟨rfl, hb1⟩
          have hb := below_t hbw hb1
          go_wp2_with fail
          go_ret
          exact ⟨ret_bool HN.out.symm, hb⟩
        | true =>
          have HX := Lib.hid hx
          by_cases hnm : 100 < b.name.size
          · have HN := Lib.hid (all_no (p := fewOne n) HG.out (by unfold fewOne; rw [hx, decide_eq_false (by omega)]; rfl))
            have hnm' : decide ((100 : Int) < (b.name.size : Int)) = true := decide_eq_true (by omega)
            clear hx
            go_wp2_with fail
            refine (RefFew_is _ _ _ _ _ _ n true HX.out _ i1 i2).mono ?_
            rintro e1 w1 ⟨rfl, hb1⟩
            have c0 := (hb1.cell (p := ⟨g, off + k * 3, none⟩) hg0).trans c0
            have hb := below_t hbw hb1
            go_wp2_with fail
            go_ret
            exact ⟨ret_bool HN.out.symm, hb⟩
          · have HN := Lib.hid (all_take (p := fewOne n) HG.out hI.out (by unfold fewOne; rw [hx, decide_eq_true (by omega)]; rfl))
            have hnm' : decide ((100 : Int) < (b.name.size : Int)) = false := decide_eq_false (by omega)
            clear hx
            go_wp2_with fail
            refine (RefFew_is _ _ _ _ _ _ n true HX.out _ i1 i2).mono ?_
            rintro e1 w1 ⟨rfl, hb1⟩
            have c0 := (hb1.cell (p := ⟨g, off + k * 3, none⟩) hg0).trans c0
            have hb := below_t hbw hb1
            go_wp2_with fail
            go_roundw
            case rel => exact ⟨k + 1, by omega, by go_num, hb, HN⟩
            case measure => simp [intOf]; omega
      · have hki : ¬ (k : Int) < (bs.length : Int) := by omega
        have HE := Lib.hid (all_end (p := fewOne n) (by omega) hI.out)
        go_wp2_with fail
        go_ret
        exact ⟨ret_bool HE.out.symm, hbw⟩

/-- a binding that may stand in an environment; a list of bindings that is one -/
def okB (b : BV) : Bool := nameB b.name && decide (arrS b.s b.d = 0)
def GoodAt (bs : List BV) (k : Nat) : Prop := okB (bth bs k) = true ∧ ∀ j, j < k → (bth bs j).name ≠ (bth bs k).name
def RightP (bs : List BV) : Prop := ∀ k, k < bs.length → GoodAt bs k

theorem RefACheckB_is (p q : Option Addr) (c f : Nat) (s d : List Int) (n : Int) (hn : arrS s d = n) (w : World) (h : Ints w p s) (h' : Ints w q d) :
    Calls Try.prog 30 #[.agg #[.slice p s.length c, .slice q d.length f]] w fun e w' => e = .returned (.int .i64 n) ∧ Below w.heap.size w w' := hn ▸ RefACheck_any p q c f s d w h h'
theorem refName_is (s : ByteArray) (b : Bool) (hb : nameB s = b) (w : World) (hs : s.size ≤ 9223372036854775807) : Calls Try.prog 29 #[.string s] w fun e w' => e = .returned (.bool b) ∧ w = w' := hb ▸ refName_any s w hs

set_option maxHeartbeats 4000000 in
theorem Right_any (r : Bool) (p : Option Addr) (c : Nat) (bs : List BV) (hr : r = true ↔ RightP bs) (w : World) (h : Binds w p bs) :
    Calls Try.prog 23 #[.slice p bs.length c] w fun e w' => e = .returned (.bool r) ∧ Below w.heap.size w w' := by
  have hsm := h.small
  have Hno : Hid (∀ k, k < bs.length → ¬ GoodAt bs k → false = r) := fun k hk hg => by
    cases r with
    | false => rfl
    | true => exact absurd (hr.1 rfl k hk) hg
  have Hyes : Hid ((∀ k, k < bs.length → GoodAt bs k) → true = r) := fun hg => (hr.2 hg).symm
  clear hr
  go_enter Try.func23, Try.ntmps23
  go_wp2_with fail
  go_loopw [3] (fun i wr => ∃ k : Nat, k ≤ bs.length ∧ i = .int .i64 k ∧ Below w.heap.size w wr ∧ Hid (∀ j, j < k → GoodAt bs j)) (fun i _ => bs.length - (intOf i).toNat)
  case atStart => exact ⟨0, Nat.zero_le _, rfl, Below.refl _ _, fun j hj => by omega⟩
  case round =>
    obtain ⟨k, hk, rfl, hbw, hI⟩ := hrel
    by_cases hlt : k < bs.length
    · have hB := h.keep hbw
      obtain ⟨g, off, rfl, hg0, c0, c1, c2⟩ := hB.at hlt
      obtain ⟨i1, i2, i3⟩ := hB.vals _ (bth_mem hlt)
      have hki : (k : Int) < (bs.length : Int) := by omega
      obtain ⟨b, hb⟩ : ∃ b, bth bs k = b := ⟨_, rfl⟩
      rw [hb] at c0 c1 c2 i1 i2 i3
      cases hnm : nameB b.name with
      | false =>
        have HM := Lib.hid hnm
        have HN := Lib.hid (Hno.out k hlt (fun hgd => by have := hgd.1; rw [hb, okB, hnm] at this; cases this))
        clear hb hnm Hno Hyes
        go_wp2_with fail
        refine (refName_is _ false HM.out _ i3).mono ?_
        rintro e1 w1 ⟨rfl, rfl⟩
        go_wp2_with fail
        go_ret
        exact ⟨ret_bool HN.out, hbw⟩
      | true =>
        have HM := Lib.hid hnm
        by_cases hz : arrS b.s b.d = 0
        · have HZ := Lib.hid hz
          have HO : Hid (okB (bth bs k) = true) := by unfold Hid; rw [hb, okB, hnm, hz]; rfl
          have HB := Lib.hid hb
          clear hb hnm hz
          go_wp2_with fail
          refine (refName_is _ true HM.out _ i3).mono ?_
          rintro e1 w1 ⟨rfl, rfl⟩
          go_wp2_with fail
          refine (RefACheckB_is _ _ _ _ _ _ 0 HZ.out _ i1 i2).mono ?_
          rintro e1 w1 ⟨rfl, hb1⟩
          have hbk := below_t hbw hb1
          have c0k := (hb1.cell (p := ⟨g, off + k * 3, none⟩) hg0).trans c0
          clear hb1 c0 c1 c2
          go_wp2_with fail
          go_loopw [4] (fun i wr2 => ∃ j m : Nat, j ≤ k ∧ i = .int .i64 j ∧ wr2 = w1.drewN m ∧ Hid (∀ i, i < j → (bth bs i).name ≠ b.name)) (fun i _ => k - (intOf i).toNat)
          case atStart => exact ⟨0, 0, Nat.zero_le _, rfl, rfl, fun i hi => by omega⟩
          case round =>
            obtain ⟨j, m, hj, rfl, rfl, hJ⟩ := hrel
            by_cases hjk : j < k
            · have hjl : j < bs.length := by omega
              obtain ⟨g2, off2, he, hg2, d0, -, -⟩ := (h.keep hbk).at hjl
              cases he
              have hjki : (j : Int) < (k : Int) := by omega
              have hji : (j : Int) < (bs.length : Int) := by omega
              obtain ⟨b2, hb2⟩ : ∃ b2, bth bs j = b2 := ⟨_, rfl⟩
              rw [hb2] at d0
              by_cases hx : b2.name = b.name
              · have hxb := name_eq hx
                have HN := Lib.hid (Hno.out k hlt (fun hgd => hgd.2 j hjk (by rw [hb2, HB.out]; exact hx)))
                clear hx hb2 Hno Hyes
                go_wp2_with fail
                go_quiet (fail)
                go_wp2_with fail
                go_ret
                exact ⟨ret_bool HN.out, (hbk.trans (below_drewN _ _ _)).trans (below_drewN _ _ _)⟩
              · have hxb := name_ne hx
                have HJ : Hid (∀ i, i < j + 1 → (bth bs i).name ≠ b.name) := fun i hi => by
                  by_cases he : i = j
                  · subst he; rw [hb2]; exact hx
                  · exact hJ.out i (by omega)
                clear hx hb2
                go_wp2_with fail
                go_quiet (fail)
                go_wp2_with fail
                go_roundw
                case rel => exact ⟨j + 1, _, by omega, by go_num, rfl, HJ⟩
                case measure => simp [intOf]; omega
            · have hjki : ¬ (j : Int) < (k : Int) := by omega
              have HI : Hid (∀ j, j < k + 1 → GoodAt bs j) := fun i hi => by
                by_cases he : i = k
                · subst he; exact ⟨HO.out, fun j' hj' => by rw [HB.out]; exact hJ.out j' (by omega)⟩
                · exact hI.out i (by omega)
              go_wp2_with fail
              go_roundw
              case rel => exact ⟨k + 1, by omega, by go_num, hbk.trans (below_drewN _ _ _), HI⟩
              case measure => simp [intOf]; omega
        · obtain ⟨z, hzz⟩ : ∃ z, arrS b.s b.d = z := ⟨_, rfl⟩
          have HN := Lib.hid (Hno.out k hlt (fun hgd => by have := hgd.1; rw [hb, okB, hnm, decide_eq_false hz] at this; cases this))
          rw [hzz] at hz
          have hzb : (z != 0) = true := by simp [hz]
          have HZ := Lib.hid hzz
          clear hb hnm hz hzz Hno Hyes
          go_wp2_with fail
          refine (refName_is _ true HM.out _ i3).mono ?_
          rintro e1 w1 ⟨rfl, rfl⟩
          go_wp2_with fail
          refine (RefACheckB_is _ _ _ _ _ _ z HZ.out _ i1 i2).mono ?_
          rintro e1 w1 ⟨rfl, hb1⟩
          have hbk := below_t hbw hb1
          go_wp2_with fail
          go_ret
          exact ⟨ret_bool HN.out, hbk⟩
    · have hki : ¬ (k : Int) < (bs.length : Int) := by omega
      have HN := Lib.hid (Hyes.out fun j hj => hI.out j (by omega))
      clear Hno Hyes
      go_wp2_with fail
      go_ret
      exact ⟨ret_bool HN.out, hbw⟩
end Go.Proofs.Ytolkgjbljdmadaa
