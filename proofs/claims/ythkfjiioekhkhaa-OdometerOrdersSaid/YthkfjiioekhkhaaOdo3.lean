/- Rows of rows; the reference's list of all indices. No condition beyond what each says. -/
import Derived.Test.YthkfjiioekhkhaaOdo2
namespace Go.Proofs.Ythkfjiioekhkhaa
open Go.RowKit Go.Shelf
set_option linter.unusedVariables false
set_option linter.unusedSimpArgs false

theorem nth_ext {a b : List Int} (hl : a.length = b.length) (h : ∀ j, j < a.length → nth a j = nth b j) : a = b := by
  apply List.ext_getElem hl
  intro i h1 h2
  have := h i h1
  simpa [nth, h1, h2] using this
/-- all indices of a range -/
def addX (lo r : List Int) : List Int := mixX (· + ·) r lo
def betX (lo hi : List Int) : List (List Int) := (allX (dimsX lo hi)).map (addX lo)
/-- a row: where it lies, its capacity, its numbers -/
structure RowV where
  p : Option Addr
  c : Nat
  v : List Int
def RowV.cell (r : RowV) : Value := .slice r.p r.v.length r.c
/-- rows in blocks from B on, no two with numbers in one block -/
structure Rows6 (B : Nat) (w : World) (rs : List RowV) : Prop where
  new : ∀ r ∈ rs, New B w r.p 3 (r.v.map (.int .i64))
  apart : ∀ i j : Nat, i < j → ∀ a b : RowV, rs[i]? = some a → rs[j]? = some b → a.v ≠ [] → b.v ≠ [] → a.p ≠ b.p
theorem Rows6.nil (B : Nat) (w : World) : Rows6 B w [] := ⟨(fun r hr => by cases hr), (fun i j _ a b h => by simp at h)⟩
theorem Rows6.keep {B : Nat} {a b : World} {rs : List RowV} (h : Rows6 B a rs) (hb : Below a.heap.size a b) : Rows6 B b rs := ⟨fun r hr => (h.new r hr).keep' hb, h.apart⟩
/-- a row made after the others lies apart from them -/
theorem Rows6.snoc {B B' : Nat} {w : World} {rs : List RowV} (h : Rows6 B w rs) {r : RowV} (hB : B ≤ B') (hlt : ∀ a : RowV, a ∈ rs → ∀ g, a.p = some ⟨g, 0, none⟩ → a.v ≠ [] → g < B') (hr : New B' w r.p 3 (r.v.map (.int .i64))) : Rows6 B w (rs ++ [r]) := by
  refine ⟨fun x hx => ?_, fun i j hij a b ha hb hav hbv => ?_⟩
  · rcases List.mem_append.1 hx with hx | hx
    · exact h.new x hx
    · rw [List.mem_singleton] at hx
      subst hx
      exact hr.mono hB
  · have hj := (List.getElem?_eq_some_iff.1 hb).1
    rw [List.length_append, List.length_singleton] at hj
    by_cases hjl : j < rs.length
    · rw [List.getElem?_append_left hjl] at hb
      rw [List.getElem?_append_left (by omega)] at ha
      exact h.apart i j hij a b ha hb hav hbv
    · have hje : j = rs.length := by omega
      subst hje
      rw [List.getElem?_append_left (by omega)] at ha
      have hbr : b = r := by simpa using hb.symm
      subst hbr
      have hma : a ∈ rs := List.mem_of_getElem? ha
      intro e
      rcases hr with hr | ⟨g, hp, hg, -⟩
      · exact hbv (by simpa using hr)
      · have := hlt a hma g (e.trans hp) hav
        omega
theorem New.grownR {B B' n : Nat} {w w' : World} {p : Option Addr} {v : Value} {vs xs : List Value} (h : New B w p 3 vs) (hr : w.ownsRow B' 22 1 v n xs) (hg : w.grownBy w' v.ownBlock) : New B w' p 3 vs := by
  rcases h with h | ⟨g, hp, hB, ho⟩
  · exact .inl h
  · refine .inr ⟨g, hp, hB, ho.grown hg fun e => ?_⟩
    obtain ⟨-, h2⟩ := hr
    rcases h2 with ⟨rfl, -⟩ | ⟨g', cap, cur, rfl, h3, h4, h5⟩
    · cases e
    · cases e
      obtain ⟨r, ho⟩ := ho
      rw [ho] at h4
      simp at h4
theorem row_keep {a b : World} {B size n : Nat} {e : TypeId} {v : Value} {xs : List Value} (h : a.ownsRow B e size v n xs) (hb : Below a.heap.size a b) : b.ownsRow B e size v n xs := row_block' h fun j hj => hb.block j (row_lt h hj).2
theorem ints_new {w : World} {B n : Nat} {v : Value} {xs : List Int} (h : w.ownsRow B 3 1 v n (xs.map (.int .i64))) : ∃ p c, v = .slice p xs.length c ∧ New B w p 3 (xs.map (.int .i64)) := by
  obtain ⟨p, c, hv, hn⟩ := row_new h
  exact ⟨p, c, by rw [hv, List.length_map], hn⟩
/-- a list of rows under way: the list and its rows are newer than the world W -/
structure Grow (W wr : World) (v : Value) (rs : List RowV) : Prop where
  row : wr.ownsRow W.heap.size 22 1 v rs.length (rs.map RowV.cell)
  rows : Rows6 W.heap.size wr rs
  below : Below W.heap.size W wr
theorem Grow.nil (W : World) : Grow W W (.slice none 0 0) [] := ⟨World.ownsRow_nil _ _ _ _, Rows6.nil _ _, Below.refl _ _⟩
theorem Grow.next {W a b z : World} {v v' : Value} {rs : List RowV} {r : RowV} {o : Obj} (h : Grow W a v rs) (hab : Below a.heap.size a b) (hr : New a.heap.size b r.p 3 (r.v.map (.int .i64))) (hg : (b.alloc o).grownBy z v.ownBlock)
    (hz : z.ownsRow W.heap.size 22 1 v' (rs.length + 1) (rs.map RowV.cell ++ [r.cell])) : Grow W z v' (rs ++ [r]) := by
  have hW := h.below.size
  have hrow := row_block' h.row fun j hj => (below_t hab (below_alloc b o)).block j (row_lt h.row hj).2
  refine ⟨?_, ?_, ?_⟩
  · rw [List.length_append, List.map_append]
    exact hz
  · refine Rows6.snoc (B' := a.heap.size) ?_ hW ?_ ?_
    · exact ⟨fun x hx => ((h.rows.new x hx).keep' (below_t hab (below_alloc b o))).grownR hrow hg, h.rows.apart⟩
    · intro x hx g hp hne
      rcases h.rows.new x hx with h' | ⟨g', hp', -, ho⟩
      · exact (hne (by simpa using h')).elim
      · rw [hp] at hp'
        cases hp'
        exact ho.lt
    · exact (hr.keep' (below_alloc b o)).grownR hrow hg
  · exact (h.below.trans ((below_t hab (below_alloc b o)).mono hW)).grown hg (by have := hab.size; simp; omega) fun j hj => (row_lt h.row hj).1
/-- 'append(rows, row)' -/
theorem append_row {w : World} {ops : Array Oper} {rest : List Oper} {o : Oper} {a : Act} {Q : Exit → Act → World → Prop} (hgd : o.guard = none) (s x : Operand)
    (ho : o.op = .call { callee := .builtin .append, args := #[s, x], argTypes := #[25, 25] })
    (base : Nat) (v : Value) (n : Nat) (xs : List Value) (hs : a.eval s = v) (hown : w.ownsRow base 22 1 v n xs)
    (p : Option Addr) (c : Nat) (q : Option Addr) (m d : Nat) (hx : a.eval x = .slice p 1 c) (hsrc : Cells w p [.slice q m d])
    (hbig : n + 1 ≤ 1099511627776) (hbase : base ≤ w.heap.size)
    (h : ∀ v' w', w'.ownsRow base 22 1 v' (n + 1) (xs ++ [.slice q m d]) → w.grownBy w' v.ownBlock → wpList Try.prog ops Q rest (a.put o.dst v') w') : wpList Try.prog ops Q (o :: rest) a w :=
  wpList_append_src hgd s x 25 ho base 22 (.slice none 0 0) 1 24 Try.underlying25 info_ints rfl (by decide) v n xs hs hown p 1 c [.slice q m d] hx (by simp) hsrc (by simp [Value.oneCell']) hbig (by omega) hbase h
/-- a list of rows in memory -/
structure RowsAt (B : Nat) (w : World) (p : Option Addr) (rs : List RowV) : Prop where
  list : New B w p 22 (rs.map RowV.cell)
  rows : Rows6 B w rs
theorem RowsAt.keep {B : Nat} {a b : World} {p : Option Addr} {rs : List RowV} (h : RowsAt B a p rs) (hb : Below a.heap.size a b) : RowsAt B b p rs := ⟨h.list.keep' hb, h.rows.keep hb⟩
theorem RowsAt.mono {B B' : Nat} {a : World} {p : Option Addr} {rs : List RowV} (h : RowsAt B a p rs) (hb : B' ≤ B) : RowsAt B' a p rs := ⟨h.list.mono hb, ⟨fun r hr => (h.rows.new r hr).mono hb, h.rows.apart⟩⟩
theorem RowsAt.at {B : Nat} {w : World} {p : Option Addr} {rs : List RowV} (h : RowsAt B w p rs) {k : Nat} {r : RowV} (hk : rs[k]? = some r) :
    (∃ b, p = some ⟨b, 0, none⟩ ∧ b < w.heap.size ∧ w.cell? ⟨b, k, none⟩ = some (.slice r.p r.v.length r.c)) ∧ New B w r.p 3 (r.v.map (.int .i64)) := by
  refine ⟨?_, h.rows.new r (List.mem_of_getElem? hk)⟩
  rcases h.list with h' | ⟨g, hp, -, ho⟩
  · have : rs = [] := by simpa using h'
    subst this
    simp at hk
  · exact ⟨g, hp, ho.lt, ho.cell (by rw [List.getElem?_map, hk]; rfl)⟩
/-- a call that returns a new list of new rows -/
def RowsRet (L : List (List Int)) (w : World) (e : Ending) (w' : World) : Prop :=
  (∃ p c rs, e = .returned (.slice p rs.length c) ∧ RowsAt w.heap.size w' p rs ∧ rs.map RowV.v = L) ∧ Below w.heap.size w w'
/-- the list of the first rows, one step on -/
theorem stepA_next {out : List (List Int)} {d : Int} {j : Nat} {r : List Int} (hj : out[j]? = some r) : stepA (out.take (j + 1)) d = stepA (out.take j) d ++ (List.range d.toNat).map fun (n : Nat) => r ++ [(n : Int)] := by
  have hlt : j < out.length := (List.getElem?_eq_some_iff.1 hj).1
  rw [List.take_add_one, hj]
  simp [stepA]
theorem mem_of_map {rs : List RowV} {L : List (List Int)} (h : rs.map RowV.v = L) {r : RowV} (hr : r ∈ rs) : r.v ∈ L := h ▸ List.mem_map_of_mem hr
set_option maxRecDepth 100000 in
set_option maxHeartbeats 4000000 in
theorem RefAll_any (p : Option Addr) (c : Nat) (s : List Int) (hs : s.length ≤ 1000000) (hb : ∀ k, k ≤ s.length → (allX (s.take k)).length ≤ 1000000) (w : World) (h : Ints w p s) :
    Calls Try.prog 37 #[.slice p s.length c] w (RowsRet (allX s) w) := by
  have HB := Lib.hid hb
  clear hb
  go_enter Try.func37, Try.ntmps37
  go_wp2_with fail
  go_loopw [3, 4] (fun o i wr => ∃ (k : Nat) (p : Option Addr) (c : Nat) (rs : List RowV), k ≤ s.length ∧ o = .slice p rs.length c ∧ i = .int .i64 k ∧ Hid (RowsAt w.heap.size wr p rs ∧ rs.map RowV.v = allX (s.take k)) ∧ Below w.heap.size w wr) (fun _ i _ => s.length - (intOf i).toNat)
  case atStart =>
    refine ⟨0, some ⟨w.heap.size + 1, 0, none⟩, 1, [⟨some ⟨w.heap.size, 0, none⟩, 0, []⟩], Nat.zero_le _, rfl, rfl, ?_, below_t (below_alloc _ _) (below_alloc _ _)⟩
    refine ⟨⟨.inr ⟨w.heap.size + 1, rfl, Nat.le_succ _, ?_⟩, ⟨?_, ?_⟩⟩, by simp [allX]⟩
    · exact Own.made _ _ [.slice (some ⟨w.heap.size, 0, none⟩) 0 0] 22 (by simp)
    · intro r hr
      rw [List.mem_singleton] at hr
      subst hr
      exact .inl rfl
    · intro i j hij a b ha hb
      have h1 := (List.getElem?_eq_some_iff.1 hb).1
      simp at h1
      omega
  case round =>
    obtain ⟨i, po, co, rs, hi, rfl, rfl, HR, hbr⟩ := hrel
    by_cases hlt : i < s.length
    · have hi1 : (i : Int) < (s.length : Int) := by omega
      obtain ⟨bs, os, rfl, hbs, hcs⟩ := (h.keep hbr).at hlt
      obtain ⟨D, hD⟩ : ∃ D, nth s i = D := ⟨_, rfl⟩
      have HS : Hid (allX (s.take (i + 1)) = stepA (allX (s.take i)) D) := by rw [Hid, take_nth hlt, allX_snoc, hD]
      have HL : Hid (rs.length * D.toNat ≤ 1000000) := by
        have := HB.out (i + 1) (by omega)
        rw [HS.out, stepA_len, ← HR.out.2, List.length_map] at this
        exact this
      have HN : Hid (rs.length ≤ 1000000) := by
        have := HB.out i (by omega)
        rw [← HR.out.2, List.length_map] at this
        exact this
      have hD64 : I64 D := hD ▸ h.nth hlt
      rw [hD] at hcs
      clear hD
      rename World => W
      go_wp2_with fail
      go_loopw [5, 6] (fun v k wz => ∃ (j : Nat) (v' : Value) (rz : List RowV), j ≤ rs.length ∧ k = .int .i64 j ∧ v' = v ∧ Hid (Grow W wz v' rz ∧ rz.map RowV.v = stepA ((allX (s.take i)).take j) D)) (fun _ k _ => rs.length - (intOf k).toNat)
      case atStart => exact ⟨0, _, [], Nat.zero_le _, rfl, rfl, Grow.nil _, by simp [stepA]⟩
      case round =>
        obtain ⟨j, v, rz, hj, rfl, rfl, HG⟩ := hrel
        have hnr := HN.out
        by_cases hjl : j < rs.length
        · have hj1 : (j : Int) < (rs.length : Int) := by omega
          obtain ⟨r, hr⟩ : ∃ r, rs[j]? = some r := ⟨_, List.getElem?_eq_getElem hjl⟩
          have HJ : Hid ((allX (s.take i))[j]? = some r.v) := by rw [Hid, ← HR.out.2, List.getElem?_map, hr]; rfl
          have HD : Hid (D.toNat ≤ 1000000) := by
            have h1 := HL.out
            have h2 : 1 * D.toNat ≤ rs.length * D.toNat := Nat.mul_le_mul_right _ (by omega)
            rw [Hid]
            omega
          have HRL : Hid (r.v.length = i) := ((allX_take_mem i (by omega) r.v).1 (List.mem_of_getElem? HJ.out)).1
          have HRB : Hid (∀ n : Nat, n < D.toNat → rz.length + n + 1 ≤ 1000000) := by
            intro n hn
            have e : rz.length = j * D.toNat := by
              have := congrArg List.length HG.out.2
              rw [List.length_map, stepA_len, List.length_take, ← HR.out.2, List.length_map] at this
              rw [this]
              congr 1
              omega
            have h1 : (j + 1) * D.toNat ≤ rs.length * D.toNat := Nat.mul_le_mul_right _ (by omega)
            have h2 := HL.out
            rw [Nat.succ_mul] at h1
            omega
          obtain ⟨⟨bo, rfl, hbo, hco⟩, hnw⟩ := HR.out.1.at hr
          rename World => W2
          go_wp2_with fail
          go_loopw [5, 7] (fun v n wz => ∃ (m : Nat) (v' : Value) (ry : List RowV), m ≤ D.toNat ∧ n = .int .i64 m ∧ v' = v ∧ Hid (Grow W wz v' ry ∧ ry.length = rz.length + m ∧ ry.map RowV.v = stepA ((allX (s.take i)).take j) D ++ (List.range m).map fun (n : Nat) => r.v ++ [(n : Int)])) (fun _ n _ => D.toNat - (intOf n).toNat)
          case atStart => exact ⟨0, _, rz, Nat.zero_le _, rfl, rfl, HG.out.1, rfl, by simpa using HG.out.2⟩
          case round =>
            obtain ⟨m, v2, ry, hm, rfl, rfl, HY⟩ := hrel
            clear HG
            have hcs := (HY.out.1.below.cell (p := ⟨bs, os + i, none⟩) hbs).trans hcs
            have hsz := HY.out.1.below.size
            by_cases hml : (m : Int) < D
            · have hm1 := HRB.out m (by omega)
              have hyl := HY.out.2.1
              have hco := (HY.out.1.below.cell (p := ⟨bo, j, none⟩) hbo).trans hco
              have hbo' : bo < wr.heap.size := by omega
              have hnw := Lib.hid (((hnw.keep' HY.out.1.below).cells).keep (below_alloc wr (.cells #[] 3)))
              have hq : ∀ o, (wr.alloc o).cell? ⟨bo, j, none⟩ = some (.slice r.p r.v.length r.c) := fun o => ((below_alloc wr o).cell (p := ⟨bo, j, none⟩) hbo').trans hco
              have Hrl : Hid (r.v.length ≤ 1000000) := by have := HRL.out; rw [Hid]; omega
              have hym : ry.length ≤ 1000000 := by omega
              have hrow := Lib.hid HY.out.1.row
              clear hyl hm1
              have hdn := HD.out
              go_wp2_with (first
                | (at_builtin; refine append_ints rfl (.tmp 31) (.tmp 35) rfl wr.heap.size _ 0 [] rfl (World.ownsRow_lit wr #[] 0 (Nat.le_refl _) (by decide) rfl) r.p r.c r.v rfl hnw.out (by have := Hrl.out; omega) (by simp) ?_; intro v3 w3 hown3 hg3; rw [Nat.zero_add, List.nil_append] at hown3; have hb3 := below_append' (below_alloc wr _) (World.ownsRow_lit wr #[] 0 (Nat.le_refl _) (by decide) rfl) hg3)
                | (at_builtin; refine append_ints rfl (.tmp 36) (.tmp 38) rfl wr.heap.size _ r.v.length _ rfl (hown3.alloc _) (some ⟨w3.heap.size, 0, none⟩) 1 [(m : Int)] rfl (cells_one _ _ _ _ rfl) (by have := Hrl.out; simp; omega) (by have := hb3.size; simp; omega) ?_; intro v4 w4 hown4 hg4; have hb4 := below_append hb3 hown3 hg4; rw [← List.map_append] at hown4; obtain ⟨p4, c4, rfl, hn4⟩ := ints_new hown4; have hrow4 := row_keep hrow.out hb4)
                | (at_builtin; refine append_row rfl (.tmp 30) (.tmp 40) rfl W.heap.size _ ry.length _ rfl (hrow4.alloc _) (some ⟨w4.heap.size, 0, none⟩) 1 p4 _ c4 rfl (cells_one _ _ _ _ rfl) (by omega) (by have := hb4.size; simp; omega) ?_; intro v5 w5 hown5 hg5))
              have HG5 : Hid (Grow W w5 v5 (ry ++ [⟨p4, c4, r.v ++ [(m : Int)]⟩])) := HY.out.1.next hb4 hn4 hg5 (by simpa [RowV.cell] using hown5)
              clear hown5 hg5 hown4 hg4 hown3 hg3 hrow hrow4 hb3 hb4 hn4
              go_roundw
              case rel =>
                refine ⟨m + 1, _, _, by omega, by go_num, rfl, HG5.out, ?_, ?_⟩
                · rw [List.length_append, List.length_singleton, HY.out.2.1]
                  omega
                · rw [List.map_append, HY.out.2.2, List.range_succ, List.map_append, List.append_assoc]
                  rfl
              case measure => simp [intOf]; omega
            · have hml' : ¬ (m : Int) < D := hml
              have hme : m = D.toNat := by omega
              have HZ : Hid (Grow W wr v2 ry ∧ ry.map RowV.v = stepA ((allX (s.take i)).take (j + 1)) D) := by
                refine ⟨HY.out.1, ?_⟩
                rw [HY.out.2.2, hme, stepA_next HJ.out]
              clear hme
              go_wp2_with fail
              go_roundw
              case rel => exact ⟨j + 1, _, ry, by omega, by go_num, rfl, HZ.out⟩
              case measure => simp [intOf]; omega
        · have hj1 : ¬ (j : Int) < (rs.length : Int) := by omega
          have HZ : Hid (Grow W wr v rz ∧ rz.map RowV.v = allX (s.take (i + 1))) := by
            refine ⟨HG.out.1, ?_⟩
            rw [HG.out.2, HS.out, List.take_of_length_le (by rw [← HR.out.2, List.length_map]; omega)]
          have hrow := HZ.out.1.row
          obtain ⟨p6, c6, hv6, hn6⟩ := row_new hrow
          rw [List.length_map] at hv6
          subst hv6
          have HZ2 : Hid (RowsAt w.heap.size wr p6 rz ∧ rz.map RowV.v = allX (s.take (i + 1))) := ⟨⟨hn6.mono hbr.size, ⟨fun x hx => (HZ.out.1.rows.new x hx).mono hbr.size, HZ.out.1.rows.apart⟩⟩, HZ.out.2⟩
          have hbz := below_t hbr HZ.out.1.below
          clear hrow hn6 HZ HG
          go_wp2_with fail
          go_roundw
          case rel => exact ⟨i + 1, p6, c6, rz, by omega, rfl, by go_num, HZ2, hbz⟩
          case measure => simp [intOf]; omega
    · have hi1 : ¬ (i : Int) < (s.length : Int) := by omega
      have HZ : Hid (rs.map RowV.v = allX s) := by
        have := HR.out.2
        rwa [List.take_of_length_le (by omega)] at this
      go_wp2_with fail
      go_ret
      exact ⟨⟨po, co, rs, rfl, HR.out.1, HZ.out⟩, hbr⟩
end Go.Proofs.Ythkfjiioekhkhaa
