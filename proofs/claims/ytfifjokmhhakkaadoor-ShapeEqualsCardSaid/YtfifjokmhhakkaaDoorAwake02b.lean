/- The fixed results of layer 2 (shape), walked. No condition. -/
import Derived.Test.YtfifjokmhhakkaaDoorAwake02
namespace Go.Proofs.YtfifjokmhhakkaaDoor
open Go.RowKit Go.Shelf
set_option linter.unusedVariables false
set_option linter.unusedSimpArgs false

set_option maxRecDepth 100000 in
set_option maxHeartbeats 8000000 in
theorem awake02 (w : World) : Calls Tryd.prog 8 #[] w fun e w' => e = .returned (.bool true) ∧ Below w.heap.size w w' := by
  obtain ⟨W, hW, hb, hs, hlt⟩ : ∃ W, w.alloc (.cells #[.int .i64 2, .int .i64 3, .int .i64 4] 3) = W ∧ Below w.heap.size w W ∧ Ints W (some ⟨w.heap.size, 0, none⟩) [2, 3, 4] ∧ w.heap.size < W.heap.size :=
    ⟨_, rfl, below_alloc _ _, ints_lit w [2, 3, 4] (by decide) (by decide), by simp⟩
  have HW := Lib.hid hW
  have bd : Bds (some ⟨w.heap.size, 0, none⟩) 3 3 := ⟨by omega, by omega, fun h => by cases h⟩
  clear hW
  go_enter Tryd.func8, Tryd.ntmps8
  go_wp2_with fail
  rw [HW.out]
  clear HW
  generalize some (⟨w.heap.size, 0, none⟩ : Addr) = P at hs bd ⊢
  refine (a02_ins P 3 bd _ hs).mono ?_
  rintro e1 w1 ⟨⟨qi, ci, rfl, hi, -⟩, hb1⟩
  have hs := hs.keep hb1
  have hb := below_t hb hb1
  clear hb1
  go_wp2_with fail
  refine (a02_rem P 3 bd _ hs).mono ?_
  rintro e2 w2 ⟨⟨qr, cr, rfl, hr, -⟩, hb2⟩
  have hs := hs.keep hb2
  have hi := hi.keep hb2
  have hb := below_t hb hb2
  clear hb2
  go_wp2_with fail
  refine (a02_rep P 3 bd _ hs).mono ?_
  rintro e3 w3 ⟨⟨qp, cp, rfl, hp, -⟩, hb3⟩
  have hs := hs.keep hb3
  have hi := hi.keep hb3
  have hr := hr.keep hb3
  have hb := below_t hb hb3
  clear hb3
  go_wp2_with fail
  refine (a02_rep3 P 3 _).mono ?_
  rintro e4 w4 ⟨rfl, hb4⟩
  have hs := hs.keep hb4
  have hi := hi.keep hb4
  have hr := hr.keep hb4
  have hp := hp.keep hb4
  have hb := below_t hb hb4
  clear hb4
  go_wp2_with fail
  refine (a02_cells P 3 _ hs).mono ?_
  rintro e5 w5 ⟨rfl, rfl⟩
  go_wp2_with fail
  refine (a02_strides P 3 _ hs).mono ?_
  rintro e6 w6 ⟨⟨qs, cs, rfl, ht⟩, hb6⟩
  have hs := hs.keep hb6
  have hi := hi.keep hb6
  have hr := hr.keep hb6
  have hp := hp.keep hb6
  have hb := below_t hb hb6
  clear hb6
  go_wp2_with fail
  have hla := below_alloc w6 (.cells #[.int .i64 (12), .int .i64 (4), .int .i64 (1)] 3)
  have hlit := ints_lit w6 [12, 4, 1] (by decide) (by decide)
  have hsl := hs.keep hla
  have hil := hi.keep hla
  have hrl := hr.keep hla
  have hpl := hp.keep hla
  have htl := ht.keep hla
  refine (a02_eq [12, 4, 1] 3 rfl qs _ cs _ _ htl hlit).mono ?_
  rintro e7 w7 ⟨rfl, hb7⟩
  have hb7 := below_t hla hb7
  have hs := hs.keep hb7
  have hi := hi.keep hb7
  have hr := hr.keep hb7
  have hp := hp.keep hb7
  have ht := ht.keep hb7
  have hb := below_t hb hb7
  clear hla hlit hsl hil hrl hpl htl hb7
  go_wp2_with fail
  refine (a02_cells0 _).mono ?_
  rintro e8 w8 ⟨rfl, rfl⟩
  go_wp2_with fail
  have hla := below_alloc w7 (.cells #[.int .i64 (-1)] 3)
  have hlit := ints_lit w7 [-1] (by decide) (by decide)
  have hsl := hs.keep hla
  have hil := hi.keep hla
  have hrl := hr.keep hla
  have hpl := hp.keep hla
  have htl := ht.keep hla
  refine (a02_check1 _ 1 _ hlit).mono ?_
  rintro e9 w9 ⟨rfl, hb9⟩
  have hb9 := below_t hla hb9
  have hs := hs.keep hb9
  have hi := hi.keep hb9
  have hr := hr.keep hb9
  have hp := hp.keep hb9
  have ht := ht.keep hb9
  have hb := below_t hb hb9
  clear hla hlit hsl hil hrl hpl htl hb9
  go_wp2_with fail
  have hla := below_alloc w9 (.cells #[.int .i64 (65537)] 3)
  have hlit := ints_lit w9 [65537] (by decide) (by decide)
  have hsl := hs.keep hla
  have hil := hi.keep hla
  have hrl := hr.keep hla
  have hpl := hp.keep hla
  have htl := ht.keep hla
  refine (a02_check2 _ 1 _ hlit).mono ?_
  rintro e10 w10 ⟨rfl, hb10⟩
  have hb10 := below_t hla hb10
  have hs := hs.keep hb10
  have hi := hi.keep hb10
  have hr := hr.keep hb10
  have hp := hp.keep hb10
  have ht := ht.keep hb10
  have hb := below_t hb hb10
  clear hla hlit hsl hil hrl hpl htl hb10
  go_wp2_with fail
  refine (a02_check P 3 _ hs).mono ?_
  rintro e11 w11 ⟨rfl, rfl⟩
  go_wp2_with fail
  have hla := below_alloc w10 (.cells #[.int .i64 (2), .int .i64 (3), .int .i64 (4), .int .i64 (9)] 3)
  have hlit := ints_lit w10 [2, 3, 4, 9] (by decide) (by decide)
  have hsl := hs.keep hla
  have hil := hi.keep hla
  have hrl := hr.keep hla
  have hpl := hp.keep hla
  have htl := ht.keep hla
  refine (a02_eq [2, 3, 4, 9] 4 rfl qi _ ci _ _ hil hlit).mono ?_
  rintro e12 w12 ⟨rfl, hb12⟩
  have hb12 := below_t hla hb12
  have hs := hs.keep hb12
  have hi := hi.keep hb12
  have hr := hr.keep hb12
  have hp := hp.keep hb12
  have ht := ht.keep hb12
  have hb := below_t hb hb12
  clear hla hlit hsl hil hrl hpl htl hb12
  go_wp2_with fail
  have hla := below_alloc w12 (.cells #[.int .i64 (3), .int .i64 (4)] 3)
  have hlit := ints_lit w12 [3, 4] (by decide) (by decide)
  have hsl := hs.keep hla
  have hil := hi.keep hla
  have hrl := hr.keep hla
  have hpl := hp.keep hla
  have htl := ht.keep hla
  refine (a02_eq [3, 4] 2 rfl qr _ cr _ _ hrl hlit).mono ?_
  rintro e13 w13 ⟨rfl, hb13⟩
  have hb13 := below_t hla hb13
  have hs := hs.keep hb13
  have hi := hi.keep hb13
  have hr := hr.keep hb13
  have hp := hp.keep hb13
  have ht := ht.keep hb13
  have hb := below_t hb hb13
  clear hla hlit hsl hil hrl hpl htl hb13
  go_wp2_with fail
  have hla := below_alloc w13 (.cells #[.int .i64 (2), .int .i64 (7), .int .i64 (4)] 3)
  have hlit := ints_lit w13 [2, 7, 4] (by decide) (by decide)
  have hsl := hs.keep hla
  have hil := hi.keep hla
  have hrl := hr.keep hla
  have hpl := hp.keep hla
  have htl := ht.keep hla
  refine (a02_eq [2, 7, 4] 3 rfl qp _ cp _ _ hpl hlit).mono ?_
  rintro e14 w14 ⟨rfl, hb14⟩
  have hb14 := below_t hla hb14
  have hs := hs.keep hb14
  have hi := hi.keep hb14
  have hr := hr.keep hb14
  have hp := hp.keep hb14
  have ht := ht.keep hb14
  have hb := below_t hb hb14
  clear hla hlit hsl hil hrl hpl htl hb14
  go_wp2_with fail
  refine (a02_text P 3 _ hs).mono ?_
  rintro e15 w15 ⟨rfl, hb15⟩
  have hs := hs.keep hb15
  have hi := hi.keep hb15
  have hr := hr.keep hb15
  have hp := hp.keep hb15
  have ht := ht.keep hb15
  have hb := below_t hb hb15
  clear hb15
  go_wp2_with fail
  refine (ShapeEqual_is [2, 3, 4] [2, 3, 4] true (by decide) P P 3 3 _ hs hs).mono ?_
  rintro e16 w16 ⟨rfl, hb16⟩
  have hs := hs.keep hb16
  have hi := hi.keep hb16
  have hr := hr.keep hb16
  have hp := hp.keep hb16
  have ht := ht.keep hb16
  have hb := below_t hb hb16
  clear hb16
  go_wp2_with fail
  refine (ShapeEqual_is [2, 3, 4] [3, 4] false (by decide) P qr 3 cr _ hs hr).mono ?_
  rintro e17 w17 ⟨rfl, hb17⟩
  have hs := hs.keep hb17
  have hi := hi.keep hb17
  have hr := hr.keep hb17
  have hp := hp.keep hb17
  have ht := ht.keep hb17
  have hb := below_t hb hb17
  clear hb17
  go_wp2_with fail
  go_ret
  exact ⟨rfl, hb⟩
end Go.Proofs.YtfifjokmhhakkaaDoor
