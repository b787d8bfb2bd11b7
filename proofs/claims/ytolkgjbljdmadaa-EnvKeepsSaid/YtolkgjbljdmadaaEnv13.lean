/- The fixed results of layer 11 (env): awake, walked. No condition. -/
import Derived.Test.YtolkgjbljdmadaaEnv12
namespace Go.Proofs.Ytolkgjbljdmadaa
open Go.RowKit Go.Shelf
set_option linter.unusedVariables false
set_option linter.unusedSimpArgs false

/-- a binding of a scalar -/
def bOne (x : ByteArray) (g : Nat) (n : Int) : BV := ⟨x, none, 0, [], some ⟨g, 0, none⟩, 1, [n]⟩
def nX : ByteArray := ⟨#[120]⟩
def nY : ByteArray := ⟨#[121]⟩
def nZ : ByteArray := ⟨#[122]⟩
theorem nX_ne : nX ≠ nY := by intro h; have := congrArg ByteArray.data h; simp [nX, nY] at this
theorem nX_neZ : nX ≠ nZ := by intro h; have := congrArg ByteArray.data h; simp [nX, nZ] at this
theorem nY_neZ : nY ≠ nZ := by intro h; have := congrArg ByteArray.data h; simp [nY, nZ] at this
theorem nameX : nameB nX = true := by decide
theorem nameY : nameB nY = true := by decide
theorem ok_one {x : ByteArray} (hx : nameB x = true) (g : Nat) (n : Int) : okB (bOne x g n) = true := by
  unfold okB
  have : arrS (bOne x g n).s (bOne x g n).d = 0 := by
    show arrS [] [n] = 0
    unfold arrS
    have h0 : shapeS [] = 0 := by decide
    have h1 : cellsS [] = 1 := by decide
    rw [if_pos h0, h1]
    rfl
  rw [this, show (bOne x g n).name = x from rfl, hx]
  rfl
theorem two_lt {j : Nat} {a b : BV} (h : j < [a, b].length) : j = 0 ∨ j = 1 := by simp at h; omega
theorem right_xy (g g' : Nat) (n m : Int) : RightP [bOne nX g n, bOne nY g' m] := by
  intro j hj
  rcases two_lt hj with rfl | rfl
  · exact ⟨ok_one nameX g n, fun i hi => by omega⟩
  · refine ⟨ok_one nameY g' m, fun i hi => ?_⟩
    have : i = 0 := by omega
    subst this
    exact nX_ne
theorem not_right_xx (g g' : Nat) (n m : Int) : ¬ RightP [bOne nX g n, bOne nX g' m] := fun h => (h 1 (by simp)).2 0 (by omega) rfl
theorem binds_two {w : World} {x y : ByteArray} {g g' : Nat} {n m : Int} (hx : x.size ≤ 9223372036854775807) (hy : y.size ≤ 9223372036854775807) (h : Ints w (some ⟨g, 0, none⟩) [n]) (h' : Ints w (some ⟨g', 0, none⟩) [m]) (b : Nat) (hb : b = w.heap.size) :
    Binds (w.alloc (.cells #[.string x, .slice none 0 0, .slice (some ⟨g, 0, none⟩) 1 1, .string y, .slice none 0 0, .slice (some ⟨g', 0, none⟩) 1 1] 62)) (some ⟨b, 0, none⟩) [bOne x g n, bOne y g' m] := by
  refine ⟨cells_new w b (rowsB [bOne x g n, bOne y g' m]) 62 hb, fun z hz => ?_, by simp⟩
  simp only [List.mem_cons, List.mem_nil_iff, or_false] at hz
  rcases hz with rfl | rfl
  · exact ⟨Ints.nil _, h.keep (below_alloc _ _), hx⟩
  · exact ⟨Ints.nil _, h'.keep (below_alloc _ _), hy⟩

theorem i64_1 (n : Int) (h : -1000 ≤ n ∧ n ≤ 1000) : I64 n := ⟨by omega, by omega⟩

theorem w11_new {w : World} {g g' b : Nat} (hb : b = w.heap.size) (h : Ints w (some ⟨g, 0, none⟩) [1]) (h' : Ints w (some ⟨g', 0, none⟩) [2]) :
    Calls Try.prog 25 #[.slice (some ⟨b, 0, none⟩) 2 2] (w.alloc (.cells #[.string ⟨#[120]⟩, .slice none 0 0, .slice (some ⟨g, 0, none⟩) 1 1, .string ⟨#[121]⟩, .slice none 0 0, .slice (some ⟨g', 0, none⟩) 1 1] 62)) fun e w' =>
      (∃ k cs, e = .returned (.tuple #[.pointer (some ⟨k, 0, none⟩), .int .i64 0]) ∧ EnvAt w.heap.size w' k cs ∧ SameB [bOne nX g 1, bOne nY g' 2] cs) ∧ Below w.heap.size w w' :=
  (New_yes (some ⟨b, 0, none⟩) 2 [bOne nX g 1, bOne nY g' 2] (right_xy g g' 1 2) (by simp) _ (binds_two (by decide) (by decide) h h' b hb)).mono fun e w' ⟨⟨k, cs, h1, h2, h3⟩, hb⟩ => ⟨⟨k, cs, h1, h2.mono (by simp), h3⟩, below_1 hb⟩
theorem w11_dup {w : World} {g g' b : Nat} (hb : b = w.heap.size) (h : Ints w (some ⟨g, 0, none⟩) [1]) (h' : Ints w (some ⟨g', 0, none⟩) [2]) :
    Calls Try.prog 25 #[.slice (some ⟨b, 0, none⟩) 2 2] (w.alloc (.cells #[.string ⟨#[120]⟩, .slice none 0 0, .slice (some ⟨g, 0, none⟩) 1 1, .string ⟨#[120]⟩, .slice none 0 0, .slice (some ⟨g', 0, none⟩) 1 1] 62)) fun e w' =>
      e = .returned (.tuple #[.pointer none, .int .i64 3]) ∧ Below w.heap.size w w' :=
  (New_no (some ⟨b, 0, none⟩) 2 [bOne nX g 1, bOne nX g' 2] (not_right_xx g g' 1 2) (by simp) _ (binds_two (by decide) (by decide) h h' b hb)).mono fun e w' ⟨h1, hb⟩ => ⟨h1, below_1 hb⟩

theorem bth0 (a b : BV) : bth [a, b] 0 = a := rfl
theorem bth1 (a b : BV) : bth [a, b] 1 = b := rfl
theorem w11_bind {B ge g1 g2 g7 : Nat} {cs : List BV} {w : World} (E : EnvAt B w ge cs) (hS : SameB [bOne nX g1 1, bOne nY g2 2] cs) (i7 : Ints w (some ⟨g7, 0, none⟩) [7]) :
    Calls Try.prog 26 #[.pointer (some ⟨ge, 0, none⟩), .string ⟨#[120]⟩, .agg #[.slice none 0 0, .slice (some ⟨g7, 0, none⟩) 1 1]] w fun e w' =>
      (∃ k ds, e = .returned (.tuple #[.pointer (some ⟨k, 0, none⟩), .int .i64 0]) ∧ EnvAt w.heap.size w' k ds ∧ SameB [bOne nX g7 7, bOne nY g2 2] ds) ∧ Below w.heap.size w w' := by
  have hl : cs.length = 2 := hS.1.symm
  have hn : (bth cs 0).name = (bOne nX g7 7).name := ((hS.2 0 (by simp)).1).symm
  refine (Bind_at (k := 0) (by omega) (by omega) (bOne nX g7 7) hn w E (Ints.nil w) i7).mono ?_
  rintro e w' ⟨⟨-, k, ds, h1, h2, h3⟩ | ⟨h1, -⟩, hb⟩
  · exact ⟨⟨k, ds, h1, h2, (hS.set (k := 0) (by simp) (b := bOne nX g7 7) (c := bOne nX g7 7) ⟨rfl, rfl, rfl⟩).trans h3⟩, hb⟩
  · exact absurd (right_set (by omega) E.right hn (ok_one nameX g7 7)) h1
theorem w11_get {B ge g1 : Nat} {n : Int} {cs : List BV} {b2 : BV} {w : World} (E : EnvAt B w ge cs) (hS : SameB [bOne nX g1 n, b2] cs) :
    Calls Try.prog 32 #[.pointer (some ⟨ge, 0, none⟩), .string ⟨#[120]⟩] w fun e w' =>
      (∃ p c q f, e = .returned (.tuple #[.agg #[.slice p 0 c, .slice q 1 f], .bool true]) ∧ Ints w' p [] ∧ Ints w' q [n]) ∧ Below w.heap.size w w' := by
  have hl : cs.length = 2 := hS.1.symm
  obtain ⟨e1, e2, e3⟩ := hS.2 0 (by simp)
  have e2 : (bth cs 0).s = [] := e2.symm
  have e3 : (bth cs 0).d = [n] := e3.symm
  obtain ⟨a1, a2, a3, a4, -⟩ := E.vals _ (bth_mem (k := 0) (by omega))
  rw [e2] at a3
  rw [e3] at a4
  have := Get_yes (k := 0) (by omega) (by omega) nX e1.symm w E
  rw [e2, e3] at this
  refine this.mono ?_
  rintro e w' ⟨⟨p, c, q, f, h1, h2, h3⟩, hb⟩
  exact ⟨⟨p, c, q, f, h1, h2.ints a3 (by simp), h3.ints a4 (by simp)⟩, hb⟩
theorem w11_getz {B ge g1 g2 : Nat} {n m : Int} {cs : List BV} {w : World} (E : EnvAt B w ge cs) (hS : SameB [bOne nX g1 n, bOne nY g2 m] cs) :
    Calls Try.prog 32 #[.pointer (some ⟨ge, 0, none⟩), .string ⟨#[122]⟩] w fun e w' =>
      e = .returned (.tuple #[.agg #[.slice none 0 0, .slice none 0 0], .bool false]) ∧ Below w.heap.size w w' := by
  have hl : cs.length = 2 := hS.1.symm
  refine Get_no (by omega) nZ (fun j hj => ?_) (by decide) w E
  have hj2 : j = 0 ∨ j = 1 := by omega
  rcases hj2 with rfl | rfl
  · rw [← (hS.2 0 (by simp)).1]; exact nX_neZ
  · rw [← (hS.2 1 (by simp)).1]; exact nY_neZ
theorem w11_names {B ge g1 : Nat} {n : Int} {cs : List BV} {b2 : BV} {w : World} (E : EnvAt B w ge cs) (hS : SameB [bOne nX g1 n, b2] cs) :
    Calls Try.prog 37 #[.pointer (some ⟨ge, 0, none⟩)] w fun e w' =>
      (∃ g c, e = .returned (.slice (some ⟨g, 0, none⟩) 2 c) ∧ g < w'.heap.size ∧ w'.cell? ⟨g, 0, none⟩ = some (.string ⟨#[120]⟩)) ∧ Below w.heap.size w w' := by
  have hl : cs.length = 2 := hS.1.symm
  have := Names_any (by omega) w E
  rw [hl] at this
  refine this.mono ?_
  rintro e w' ⟨⟨q, c, h1, h2⟩, hb⟩
  rcases h2 with h0 | ⟨g, rfl, -, ho⟩
  · have := congrArg List.length h0
    rw [strsOf_len] at this
    simp only [List.length_nil] at this
    omega
  · refine ⟨⟨g, c, h1, ho.lt, ?_⟩, hb⟩
    have := ho.cell (strs_at (cs := cs) (k := 0) (by omega))
    rw [← (hS.2 0 (by simp)).1] at this
    exact this
theorem w11_eq (n : Int) (p q p' q' : Option Addr) (c f c' f' : Nat) (w : World) (h1 : Ints w p []) (h2 : Ints w q [n]) (h3 : Ints w p' []) (h4 : Ints w q' [n]) :
    Calls Try.prog 35 #[.agg #[.slice p 0 c, .slice q 1 f], .agg #[.slice p' 0 c', .slice q' 1 f']] w fun r w' => r = .returned (.bool true) ∧ Below w.heap.size w w' :=
  RefAEqual_yes p q p' q' c f c' f' [] [n] [] [n] rfl rfl w h1 h2 h3 h4

set_option maxRecDepth 100000 in
set_option maxHeartbeats 4000000 in
theorem awake11 (w : World) : Calls Try.prog 21 #[] w fun e w' => e = .returned (.bool true) ∧ Below w.heap.size w w' := by
  go_enter Try.func21, Try.ntmps21
  go_wp2_with fail
  refine (one_any 1 (i64_1 _ (by decide)) _).mono ?_
  rintro e1 w1 ⟨⟨g1, rfl, i1⟩, hb1⟩
  have hb := hb1
  clear hb1
  go_wp2_with fail
  refine (one_any 2 (i64_1 _ (by decide)) _).mono ?_
  rintro e2 w2 ⟨⟨g2, rfl, i2⟩, hb1⟩
  have i1 := i1.keep hb1
  have hb := below_t hb hb1
  clear hb1
  go_wp2_with fail
  refine (w11_new rfl i1 i2).mono ?_
  rintro e3 w3 ⟨⟨ge, cs, rfl, E, hS⟩, hb1⟩
  have hb := below_t hb hb1
  clear hb1
  have HS := Lib.hid hS
  clear hS i1 i2
  go_wp2_with fail
  refine (one_any 1 (i64_1 _ (by decide)) _).mono ?_
  rintro e4 w4 ⟨⟨g4, rfl, i1⟩, hb1⟩
  have E := E.keep hb1
  have hb := below_t hb hb1
  clear hb1
  go_wp2_with fail
  refine (one_any 2 (i64_1 _ (by decide)) _).mono ?_
  rintro e5 w5 ⟨⟨g5, rfl, i2⟩, hb1⟩
  have E := E.keep hb1
  have i1 := i1.keep hb1
  have hb := below_t hb hb1
  clear hb1
  go_wp2_with fail
  refine (w11_dup rfl i1 i2).mono ?_
  rintro e6 w6 ⟨rfl, hb1⟩
  have E := E.keep hb1
  have hb := below_t hb hb1
  clear hb1
  clear i1 i2
  go_wp2_with fail
  refine (one_any 7 (i64_1 _ (by decide)) _).mono ?_
  rintro e7 w7 ⟨⟨g7, rfl, i7⟩, hb1⟩
  have E := E.keep hb1
  have hb := below_t hb hb1
  clear hb1
  go_wp2_with fail
  refine (w11_bind E HS.out i7).mono ?_
  rintro e8 w8 ⟨⟨gh, ds, rfl, E2, hS2⟩, hb1⟩
  have E := E.keep hb1
  have hb := below_t hb hb1
  clear hb1
  have HS2 := Lib.hid hS2
  clear hS2 i7
  go_wp2_with fail
  refine (w11_get E2 HS2.out).mono ?_
  rintro e9 w8 ⟨⟨pa, ca, qa, fa, rfl, ia, ja⟩, hb1⟩
  have E := E.keep hb1
  have E2 := E2.keep hb1
  have hb := below_t hb hb1
  clear hb1
  have hba := below_alloc w8 (.cells #[.slice pa 0 ca, .slice qa 1 fa] 47)
  have A0 : (w8.alloc (.cells #[.slice pa 0 ca, .slice qa 1 fa] 47)).cell? ⟨w8.heap.size, 0, none⟩ = some (.slice pa 0 ca) := by simp [go_sem]
  have A1 : (w8.alloc (.cells #[.slice pa 0 ca, .slice qa 1 fa] 47)).cell? ⟨w8.heap.size, 1, none⟩ = some (.slice qa 1 fa) := by simp [go_sem]
  have KA := Lib.hid (keeps_cells w8.heap.size (.slice pa 0 ca) (.slice qa 1 fa))
  have SA := Lib.hid (⟨by simp, A0, A1⟩ : (fun w' : World => w8.heap.size < w'.heap.size ∧ w'.cell? ⟨w8.heap.size, 0, none⟩ = some (.slice pa 0 ca) ∧ w'.cell? ⟨w8.heap.size, 1, none⟩ = some (.slice qa 1 fa)) (w8.alloc (.cells #[.slice pa 0 ca, .slice qa 1 fa] 47)))
  clear A0 A1
  have E := E.keep hba
  have E2 := E2.keep hba
  have ia := ia.keep hba
  have ja := ja.keep hba
  have hb := below_t hb hba
  clear hba
  go_wp2_with fail
  refine (w11_get E HS.out).mono ?_
  rintro e10 w9 ⟨⟨pb, cb, qb, fb, rfl, ib, jb⟩, hb1⟩
  have SA := Lib.hid (KA.out _ _ SA.out hb1)
  have E := E.keep hb1
  have E2 := E2.keep hb1
  have ia := ia.keep hb1
  have ja := ja.keep hb1
  have hb := below_t hb hb1
  clear hb1
  have hba := below_alloc w9 (.cells #[.slice pb 0 cb, .slice qb 1 fb] 47)
  have A0 : (w9.alloc (.cells #[.slice pb 0 cb, .slice qb 1 fb] 47)).cell? ⟨w9.heap.size, 0, none⟩ = some (.slice pb 0 cb) := by simp [go_sem]
  have A1 : (w9.alloc (.cells #[.slice pb 0 cb, .slice qb 1 fb] 47)).cell? ⟨w9.heap.size, 1, none⟩ = some (.slice qb 1 fb) := by simp [go_sem]
  have KB := Lib.hid (keeps_cells w9.heap.size (.slice pb 0 cb) (.slice qb 1 fb))
  have SB := Lib.hid (⟨by simp, A0, A1⟩ : (fun w' : World => w9.heap.size < w'.heap.size ∧ w'.cell? ⟨w9.heap.size, 0, none⟩ = some (.slice pb 0 cb) ∧ w'.cell? ⟨w9.heap.size, 1, none⟩ = some (.slice qb 1 fb)) (w9.alloc (.cells #[.slice pb 0 cb, .slice qb 1 fb] 47)))
  clear A0 A1
  have SA := Lib.hid (KA.out _ _ SA.out hba)
  have E := E.keep hba
  have E2 := E2.keep hba
  have ia := ia.keep hba
  have ja := ja.keep hba
  have ib := ib.keep hba
  have jb := jb.keep hba
  have hb := below_t hb hba
  clear hba
  go_wp2_with fail
  refine (w11_getz E HS.out).mono ?_
  rintro e11 w10 ⟨rfl, hb1⟩
  have hb1 := below_t hb1 (below_alloc w10 (.cells #[.slice none 0 0, .slice none 0 0] 47))
  have SA := Lib.hid (KA.out _ _ SA.out hb1)
  have SB := Lib.hid (KB.out _ _ SB.out hb1)
  have E2 := E2.keep hb1
  have ia := ia.keep hb1
  have ja := ja.keep hb1
  have ib := ib.keep hb1
  have jb := jb.keep hb1
  have hb := below_t hb hb1
  clear hb1
  clear E
  go_wp2_with fail
  refine (one_any 1 (i64_1 _ (by decide)) _).mono ?_
  rintro e12 w11 ⟨⟨g11, rfl, i11⟩, hb1⟩
  have SA := Lib.hid (KA.out _ _ SA.out hb1)
  have SB := Lib.hid (KB.out _ _ SB.out hb1)
  have E2 := E2.keep hb1
  have ia := ia.keep hb1
  have ja := ja.keep hb1
  have ib := ib.keep hb1
  have jb := jb.keep hb1
  have hb := below_t hb hb1
  clear hb1
  go_wp2_with fail
  refine (Bind_nil _ _ _ _ _ _ _ _).mono ?_
  rintro e13 w12 ⟨rfl, hb1⟩
  have SA := Lib.hid (KA.out _ _ SA.out hb1)
  have SB := Lib.hid (KB.out _ _ SB.out hb1)
  have E2 := E2.keep hb1
  have ia := ia.keep hb1
  have ja := ja.keep hb1
  have ib := ib.keep hb1
  have jb := jb.keep hb1
  have hb := below_t hb hb1
  clear hb1
  clear i11
  go_wp2_with fail
  refine (w11_names E2 HS2.out).mono ?_
  rintro e14 w13 ⟨⟨gn, cn, rfl, hgn, hcn⟩, hb1⟩
  have SA := Lib.hid (KA.out _ _ SA.out hb1)
  have SB := Lib.hid (KB.out _ _ SB.out hb1)
  have ia := ia.keep hb1
  have ja := ja.keep hb1
  have ib := ib.keep hb1
  have jb := jb.keep hb1
  have hb := below_t hb hb1
  clear hb1
  clear E2
  have hKS : Keeps (fun w' => (w8.heap.size < w'.heap.size ∧ w'.cell? ⟨w8.heap.size, 0, none⟩ = some (.slice pa 0 ca) ∧ w'.cell? ⟨w8.heap.size, 1, none⟩ = some (.slice qa 1 fa)) ∧ (w9.heap.size < w'.heap.size ∧ w'.cell? ⟨w9.heap.size, 0, none⟩ = some (.slice pb 0 cb) ∧ w'.cell? ⟨w9.heap.size, 1, none⟩ = some (.slice qb 1 fb)) ∧ (gn < w'.heap.size ∧ w'.cell? ⟨gn, 0, none⟩ = some (.string ⟨#[120]⟩)) ∧ Ints w' pa [] ∧ Ints w' qa [7] ∧ Ints w' pb [] ∧ Ints w' qb [1] ∧ Below w.heap.size w w') := KA.out.and (KB.out.and ((keeps_cell _ _ _).and ((keeps_ints _ _).and ((keeps_ints _ _).and ((keeps_ints _ _).and ((keeps_ints _ _).and (keeps_below _)))))))
  have hS := hKS _ _ ⟨SA.out, SB.out, ⟨hgn, hcn⟩, ia, ja, ib, jb, hb⟩ (Below.refl _ _)
  clear SA SB hgn hcn ia ja ib jb
  go_wp2_with fail
  refine wp_region_noPanic ?_
  refine wp_region_held_drew (S := (fun w' => (w8.heap.size < w'.heap.size ∧ w'.cell? ⟨w8.heap.size, 0, none⟩ = some (.slice pa 0 ca) ∧ w'.cell? ⟨w8.heap.size, 1, none⟩ = some (.slice qa 1 fa)) ∧ (w9.heap.size < w'.heap.size ∧ w'.cell? ⟨w9.heap.size, 0, none⟩ = some (.slice pb 0 cb) ∧ w'.cell? ⟨w9.heap.size, 1, none⟩ = some (.slice qb 1 fb)) ∧ (gn < w'.heap.size ∧ w'.cell? ⟨gn, 0, none⟩ = some (.string ⟨#[120]⟩)) ∧ Ints w' pa [] ∧ Ints w' qa [7] ∧ Ints w' pb [] ∧ Ints w' qb [1] ∧ Below w.heap.size w w')) (by kernel_rfl) ?_ (fun hHeld => ?_)
  · (try dsimp only); exact hKS _ _ (by first | exact hHeld | exact hS) (by first | assumption | (go_grown; done) | (refine from_drew ?_; go_grown; done))
  refine takeH 0 (some 68) (v := ?_) rfl rfl (by kernel_rfl) (by kernel_rfl) (by kernel_rfl) (by rfl) ?_ (by exact hHeld) ?_
  rotate_left
  · intro w hSw; (try dsimp only at hSw); go_simp; try (with_reducible rfl)
  try simp only [Act.put, List.setIfInBounds_toArray, List.set_cons_zero, List.set_cons_succ]
  refine takeH 1 (some 69) (v := ?_) rfl rfl (by kernel_rfl) (by kernel_rfl) (by kernel_rfl) (by rfl) ?_ (by exact hHeld) ?_
  rotate_left
  · intro w hSw; (try dsimp only at hSw); go_simp; try (with_reducible rfl)
  try simp only [Act.put, List.setIfInBounds_toArray, List.set_cons_zero, List.set_cons_succ]
  refine takeH 2 (some 70) (v := ?_) rfl rfl (by kernel_rfl) (by kernel_rfl) (by kernel_rfl) (by rfl) ?_ (by exact hHeld) ?_
  rotate_left
  · intro w hSw; (try dsimp only at hSw); go_simp; try (with_reducible rfl)
  try simp only [Act.put, List.setIfInBounds_toArray, List.set_cons_zero, List.set_cons_succ]
  refine takeH 3 (some 71) (v := ?_) rfl rfl (by kernel_rfl) (by kernel_rfl) (by kernel_rfl) (by rfl) ?_ (by exact hHeld) ?_
  rotate_left
  · intro w hSw; (try dsimp only at hSw); go_simp; try (with_reducible rfl)
  try simp only [Act.put, List.setIfInBounds_toArray, List.set_cons_zero, List.set_cons_succ]
  refine takeH 4 (some 72) (v := ?_) rfl rfl (by kernel_rfl) (by kernel_rfl) (by kernel_rfl) (by rfl) ?_ (by exact hHeld) ?_
  rotate_left
  · intro w hSw; (try dsimp only at hSw); go_simp; try (with_reducible rfl)
  try simp only [Act.put, List.setIfInBounds_toArray, List.set_cons_zero, List.set_cons_succ]
  refine takeH 5 (some 73) (v := ?_) rfl rfl (by kernel_rfl) (by kernel_rfl) (by kernel_rfl) (by rfl) ?_ (by exact hHeld) ?_
  rotate_left
  · intro w hSw; (try dsimp only at hSw); go_simp; try (with_reducible rfl)
  try simp only [Act.put, List.setIfInBounds_toArray, List.set_cons_zero, List.set_cons_succ]
  refine takeH 6 (some 74) (v := ?_) rfl rfl (by kernel_rfl) (by kernel_rfl) (by kernel_rfl) (by rfl) ?_ (by exact hHeld) ?_
  rotate_left
  · intro w hSw; (try dsimp only at hSw); go_simp; try (with_reducible rfl)
  try simp only [Act.put, List.setIfInBounds_toArray, List.set_cons_zero, List.set_cons_succ]
  refine takeH 7 (some 75) (v := ?_) rfl rfl (by kernel_rfl) (by kernel_rfl) (by kernel_rfl) (by rfl) ?_ (by exact hHeld) ?_
  rotate_left
  · intro w hSw; (try dsimp only at hSw); go_simp; try (with_reducible rfl)
  try simp only [Act.put, List.setIfInBounds_toArray, List.set_cons_zero, List.set_cons_succ]
  refine takeH 8 (some 76) (v := ?_) rfl rfl (by kernel_rfl) (by kernel_rfl) (by kernel_rfl) (by rfl) ?_ (by exact hHeld) ?_
  rotate_left
  · intro w hSw; (try dsimp only at hSw); go_simp; try (with_reducible rfl)
  try simp only [Act.put, List.setIfInBounds_toArray, List.set_cons_zero, List.set_cons_succ]
  refine takeH 9 (some 77) (v := ?_) rfl rfl (by kernel_rfl) (by kernel_rfl) (by kernel_rfl) (by rfl) ?_ (by exact hHeld) ?_
  rotate_left
  · intro w hSw; (try dsimp only at hSw); go_simp; try (with_reducible rfl)
  try simp only [Act.put, List.setIfInBounds_toArray, List.set_cons_zero, List.set_cons_succ]
  refine takeH 10 (some 78) (v := ?_) rfl rfl (by kernel_rfl) (by kernel_rfl) (by kernel_rfl) (by rfl) ?_ (by exact hHeld) ?_
  rotate_left
  · intro w hSw; (try dsimp only at hSw); go_simp; try (with_reducible rfl)
  try simp only [Act.put, List.setIfInBounds_toArray, List.set_cons_zero, List.set_cons_succ]
  refine takeH 11 (some 79) (v := ?_) rfl rfl (by kernel_rfl) (by kernel_rfl) (by kernel_rfl) (by rfl) ?_ (by exact hHeld) ?_
  rotate_left
  · intro w hSw; (try dsimp only at hSw); go_simp; try (with_reducible rfl)
  try simp only [Act.put, List.setIfInBounds_toArray, List.set_cons_zero, List.set_cons_succ]
  refine wpAnyH_ready (rs := [12]) (by kernel_rfl) (by simp) ?_
  refine stepH 12 rfl (by rfl) (fun K hK => ?_) ?_
  · go_simp
    ((with_reducible refine (one_any 7 (i64_1 _ (by decide)) _).mono ?_); rintro e14 w14 ⟨⟨g14, rfl, i14⟩, hb14⟩)
    refine hK.out _ _ ?_ (fun hNew => ?_)
    · (try dsimp only); exact hKS _ _ (by first | exact hHeld | exact hS) (by first | assumption | (go_grown; done) | (refine from_drew ?_; go_grown; done))
    clear hK K hHeld
    have hHeld := hNew
    clear hNew
    try dsimp only at hHeld
    try simp only [Act.put, List.setIfInBounds_toArray, List.set_cons_zero, List.set_cons_succ]
    refine wpAnyH_ready (rs := [13]) (by kernel_rfl) (by simp) ?_
    refine stepH 13 rfl (by rfl) (fun K hK => ?_) ?_
    · go_simp
      ((with_reducible refine (w11_eq 7 _ _ _ _ _ _ _ _ _ ?_ ?_ ?_ ?_).mono ?_); (exact hHeld.2.2.2.1); (exact hHeld.2.2.2.2.1); (exact Ints.nil _); (exact i14); rintro e15 w15 ⟨rfl, hb15⟩)
      refine hK.out _ _ ?_ (fun hNew => ?_)
      · (try dsimp only); exact hKS _ _ (by first | exact hHeld | exact hS) (by first | assumption | (go_grown; done) | (refine from_drew ?_; go_grown; done))
      clear hK K hHeld
      have hHeld := hNew
      clear hNew
      try dsimp only at hHeld
      try simp only [Act.put, List.setIfInBounds_toArray, List.set_cons_zero, List.set_cons_succ]
      refine takeH 14 (some 82) (v := ?_) rfl rfl (by kernel_rfl) (by kernel_rfl) (by kernel_rfl) (by rfl) ?_ (by exact hHeld) ?_
      rotate_left
      · intro w hSw; (try dsimp only at hSw); go_simp; try (with_reducible rfl)
      try simp only [Act.put, List.setIfInBounds_toArray, List.set_cons_zero, List.set_cons_succ]
      refine takeH 15 (some 83) (v := ?_) rfl rfl (by kernel_rfl) (by kernel_rfl) (by kernel_rfl) (by rfl) ?_ (by exact hHeld) ?_
      rotate_left
      · intro w hSw; (try dsimp only at hSw); go_simp; try (with_reducible rfl)
      try simp only [Act.put, List.setIfInBounds_toArray, List.set_cons_zero, List.set_cons_succ]
      refine takeH 16 (some 84) (v := ?_) rfl rfl (by kernel_rfl) (by kernel_rfl) (by kernel_rfl) (by rfl) ?_ (by exact hHeld) ?_
      rotate_left
      · intro w hSw; (try dsimp only at hSw); go_simp; try (with_reducible rfl)
      try simp only [Act.put, List.setIfInBounds_toArray, List.set_cons_zero, List.set_cons_succ]
      refine takeH 17 (some 85) (v := ?_) rfl rfl (by kernel_rfl) (by kernel_rfl) (by kernel_rfl) (by rfl) ?_ (by exact hHeld) ?_
      rotate_left
      · intro w hSw; (try dsimp only at hSw); go_simp; try (with_reducible rfl)
      try simp only [Act.put, List.setIfInBounds_toArray, List.set_cons_zero, List.set_cons_succ]
      refine takeH 18 (some 86) (v := ?_) rfl rfl (by kernel_rfl) (by kernel_rfl) (by kernel_rfl) (by rfl) ?_ (by exact hHeld) ?_
      rotate_left
      · intro w hSw; (try dsimp only at hSw); go_simp; try (with_reducible rfl)
      try simp only [Act.put, List.setIfInBounds_toArray, List.set_cons_zero, List.set_cons_succ]
      refine takeH 19 (some 87) (v := ?_) rfl rfl (by kernel_rfl) (by kernel_rfl) (by kernel_rfl) (by rfl) ?_ (by exact hHeld) ?_
      rotate_left
      · intro w hSw; (try dsimp only at hSw); go_simp; try (with_reducible rfl)
      try simp only [Act.put, List.setIfInBounds_toArray, List.set_cons_zero, List.set_cons_succ]
      refine wpAnyH_ready (rs := [20]) (by kernel_rfl) (by simp) ?_
      refine stepH 20 rfl (by rfl) (fun K hK => ?_) ?_
      · go_simp
        ((with_reducible refine (one_any 1 (i64_1 _ (by decide)) _).mono ?_); rintro e16 w16 ⟨⟨g16, rfl, i16⟩, hb16⟩)
        refine hK.out _ _ ?_ (fun hNew => ?_)
        · (try dsimp only); exact hKS _ _ (by first | exact hHeld | exact hS) (by first | assumption | (go_grown; done) | (refine from_drew ?_; go_grown; done))
        clear hK K hHeld
        have hHeld := hNew
        clear hNew
        try dsimp only at hHeld
        try simp only [Act.put, List.setIfInBounds_toArray, List.set_cons_zero, List.set_cons_succ]
        refine wpAnyH_ready (rs := [21]) (by kernel_rfl) (by simp) ?_
        refine stepH 21 rfl (by rfl) (fun K hK => ?_) ?_
        · go_simp
          ((with_reducible refine (w11_eq 1 _ _ _ _ _ _ _ _ _ ?_ ?_ ?_ ?_).mono ?_); (exact hHeld.2.2.2.2.2.1); (exact hHeld.2.2.2.2.2.2.1); (exact Ints.nil _); (exact i16); rintro e17 w17 ⟨rfl, hb17⟩)
          refine hK.out _ _ ?_ (fun hNew => ?_)
          · (try dsimp only); exact hKS _ _ (by first | exact hHeld | exact hS) (by first | assumption | (go_grown; done) | (refine from_drew ?_; go_grown; done))
          clear hK K hHeld
          have hHeld := hNew
          clear hNew
          try dsimp only at hHeld
          try simp only [Act.put, List.setIfInBounds_toArray, List.set_cons_zero, List.set_cons_succ]
          refine takeH 22 (some 90) (v := ?_) rfl rfl (by kernel_rfl) (by kernel_rfl) (by kernel_rfl) (by rfl) ?_ (by exact hHeld) ?_
          rotate_left
          · intro w hSw; (try dsimp only at hSw); go_simp; try (with_reducible rfl)
          try simp only [Act.put, List.setIfInBounds_toArray, List.set_cons_zero, List.set_cons_succ]
          refine takeH 23 (some 91) (v := ?_) rfl rfl (by kernel_rfl) (by kernel_rfl) (by kernel_rfl) (by rfl) ?_ (by exact hHeld) ?_
          rotate_left
          · intro w hSw; (try dsimp only at hSw); go_simp; try (with_reducible rfl)
          try simp only [Act.put, List.setIfInBounds_toArray, List.set_cons_zero, List.set_cons_succ]
          refine takeH 24 (some 92) (v := ?_) rfl rfl (by kernel_rfl) (by kernel_rfl) (by kernel_rfl) (by rfl) ?_ (by exact hHeld) ?_
          rotate_left
          · intro w hSw; (try dsimp only at hSw); go_simp; try (with_reducible rfl)
          try simp only [Act.put, List.setIfInBounds_toArray, List.set_cons_zero, List.set_cons_succ]
          refine takeH 25 (some 93) (v := ?_) rfl rfl (by kernel_rfl) (by kernel_rfl) (by kernel_rfl) (by rfl) ?_ (by exact hHeld) ?_
          rotate_left
          · intro w hSw; (try dsimp only at hSw); go_simp; try (with_reducible rfl)
          try simp only [Act.put, List.setIfInBounds_toArray, List.set_cons_zero, List.set_cons_succ]
          refine takeH 26 (some 94) (v := ?_) rfl rfl (by kernel_rfl) (by kernel_rfl) (by kernel_rfl) (by rfl) ?_ (by exact hHeld) ?_
          rotate_left
          · intro w hSw; (try dsimp only at hSw); go_simp; try (with_reducible rfl)
          try simp only [Act.put, List.setIfInBounds_toArray, List.set_cons_zero, List.set_cons_succ]
          refine takeH 27 (some 95) (v := ?_) rfl rfl (by kernel_rfl) (by kernel_rfl) (by kernel_rfl) (by rfl) ?_ (by exact hHeld) ?_
          rotate_left
          · intro w hSw; (try dsimp only at hSw); go_simp; try (with_reducible rfl)
          try simp only [Act.put, List.setIfInBounds_toArray, List.set_cons_zero, List.set_cons_succ]
          refine takeH 28 (some 96) (v := ?_) rfl rfl (by kernel_rfl) (by kernel_rfl) (by kernel_rfl) (by rfl) ?_ (by exact hHeld) ?_
          rotate_left
          · intro w hSw; (try dsimp only at hSw); go_simp; try (with_reducible rfl)
          try simp only [Act.put, List.setIfInBounds_toArray, List.set_cons_zero, List.set_cons_succ]
          refine takeH 29 (some 97) (v := ?_) rfl rfl (by kernel_rfl) (by kernel_rfl) (by kernel_rfl) (by rfl) ?_ (by exact hHeld) ?_
          rotate_left
          · intro w hSw; (try dsimp only at hSw); go_simp; try (with_reducible rfl)
          try simp only [Act.put, List.setIfInBounds_toArray, List.set_cons_zero, List.set_cons_succ]
          refine takeH 30 (some 98) (v := ?_) rfl rfl (by kernel_rfl) (by kernel_rfl) (by kernel_rfl) (by rfl) ?_ (by exact hHeld) ?_
          rotate_left
          · intro w hSw; (try dsimp only at hSw); go_simp; try (with_reducible rfl)
          try simp only [Act.put, List.setIfInBounds_toArray, List.set_cons_zero, List.set_cons_succ]
          refine takeH 31 (some 99) (v := ?_) rfl rfl (by kernel_rfl) (by kernel_rfl) (by kernel_rfl) (by rfl) ?_ (by exact hHeld) ?_
          rotate_left
          · intro w hSw; (try dsimp only at hSw); go_simp; try (with_reducible rfl)
          try simp only [Act.put, List.setIfInBounds_toArray, List.set_cons_zero, List.set_cons_succ]
          refine takeH 32 (some 100) (v := ?_) rfl rfl (by kernel_rfl) (by kernel_rfl) (by kernel_rfl) (by rfl) ?_ (by exact hHeld) ?_
          rotate_left
          · intro w hSw; (try dsimp only at hSw); go_simp; try (with_reducible rfl)
          try simp only [Act.put, List.setIfInBounds_toArray, List.set_cons_zero, List.set_cons_succ]
          refine takeH 33 (some 101) (v := ?_) rfl rfl (by kernel_rfl) (by kernel_rfl) (by kernel_rfl) (by rfl) ?_ (by exact hHeld) ?_
          rotate_left
          · intro w hSw; (try dsimp only at hSw); go_simp; try (with_reducible rfl)
          try simp only [Act.put, List.setIfInBounds_toArray, List.set_cons_zero, List.set_cons_succ]
          refine takeH 34 (some 102) (v := ?_) rfl rfl (by kernel_rfl) (by kernel_rfl) (by kernel_rfl) (by rfl) ?_ (by exact hHeld) ?_
          rotate_left
          · intro w hSw; (try dsimp only at hSw); go_simp; try (with_reducible rfl)
          try simp only [Act.put, List.setIfInBounds_toArray, List.set_cons_zero, List.set_cons_succ]
          refine takeH 35 (some 103) (v := ?_) rfl rfl (by kernel_rfl) (by kernel_rfl) (by kernel_rfl) (by rfl) ?_ (by exact hHeld) ?_
          rotate_left
          · intro w hSw; (try dsimp only at hSw); go_simp; try (with_reducible rfl)
          try simp only [Act.put, List.setIfInBounds_toArray, List.set_cons_zero, List.set_cons_succ]
          refine takeH 36 (some 104) (v := ?_) rfl rfl (by kernel_rfl) (by kernel_rfl) (by kernel_rfl) (by rfl) ?_ (by exact hHeld) ?_
          rotate_left
          · intro w hSw; (try dsimp only at hSw); go_simp; try (with_reducible rfl)
          try simp only [Act.put, List.setIfInBounds_toArray, List.set_cons_zero, List.set_cons_succ]
          refine takeH 37 (some 105) (v := ?_) rfl rfl (by kernel_rfl) (by kernel_rfl) (by kernel_rfl) (by rfl) ?_ (by exact hHeld) ?_
          rotate_left
          · intro w hSw; (try dsimp only at hSw); go_simp; try (with_reducible rfl)
          try simp only [Act.put, List.setIfInBounds_toArray, List.set_cons_zero, List.set_cons_succ]
          refine takeH 38 (some 106) (v := ?_) rfl rfl (by kernel_rfl) (by kernel_rfl) (by kernel_rfl) (by rfl) ?_ (by exact hHeld) ?_
          rotate_left
          · intro w hSw; (try dsimp only at hSw); go_simp; try (with_reducible rfl)
          try simp only [Act.put, List.setIfInBounds_toArray, List.set_cons_zero, List.set_cons_succ]
          refine takeH 39 (some 107) (v := ?_) rfl rfl (by kernel_rfl) (by kernel_rfl) (by kernel_rfl) (by rfl) ?_ (by exact hHeld) ?_
          rotate_left
          · intro w hSw; (try dsimp only at hSw); go_simp; try (with_reducible rfl)
          try simp only [Act.put, List.setIfInBounds_toArray, List.set_cons_zero, List.set_cons_succ]
          refine takeH 40 (some 108) (v := ?_) rfl rfl (by kernel_rfl) (by kernel_rfl) (by kernel_rfl) (by rfl) ?_ (by exact hHeld) ?_
          rotate_left
          · intro w hSw; (try dsimp only at hSw); go_simp; try (with_reducible rfl)
          try simp only [Act.put, List.setIfInBounds_toArray, List.set_cons_zero, List.set_cons_succ]
          refine takeH 41 (some 109) (v := ?_) rfl rfl (by kernel_rfl) (by kernel_rfl) (by kernel_rfl) (by rfl) ?_ (by exact hHeld) ?_
          rotate_left
          · intro w hSw; (try dsimp only at hSw); go_simp; try (with_reducible rfl)
          try simp only [Act.put, List.setIfInBounds_toArray, List.set_cons_zero, List.set_cons_succ]
          refine takeH 42 (some 0) (v := ?_) rfl rfl (by kernel_rfl) (by kernel_rfl) (by kernel_rfl) (by rfl) ?_ (by exact hHeld) ?_
          rotate_left
          · intro w hSw; (try dsimp only at hSw); go_simp; try (with_reducible rfl)
          try simp only [Act.put, List.setIfInBounds_toArray, List.set_cons_zero, List.set_cons_succ]
          refine wpAnyH_done (by kernel_rfl) ?_ _
          refine NoPanic.normal ?_
          have hbz := hHeld.2.2.2.2.2.2.2
          go_wp2_with fail
          go_ret
          exact ⟨rfl, hbz⟩
        exact AllReadyH.nil
      exact AllReadyH.nil
    exact AllReadyH.nil
  exact AllReadyH.nil
end Go.Proofs.Ytolkgjbljdmadaa
