/- The fixed results of layer 4 (odometer); odometer.All; the comparison of lists of rows. No condition beyond what each says. -/
import Derived.Test.YthkfjiioekhkhaaNext04
namespace Go.Proofs.Ythkfjiioekhkhaa
open Go.RowKit Go.Shelf
set_option linter.unusedVariables false
set_option linter.unusedSimpArgs false

theorem ints_lit (w : World) (xs : List Int) (h : xs.all (fun x => decide (-9223372036854775808 ≤ x ∧ x ≤ 9223372036854775807)) = true) (hl : xs.length ≤ 1000) : Ints (w.alloc (.cells (xs.map (.int .i64)).toArray 3)) (some ⟨w.heap.size, 0, none⟩) xs :=
  New.ints (B := 0) (e := 3) (.inr ⟨w.heap.size, rfl, Nat.zero_le _, Own.made w _ _ _ rfl⟩) (i64_all h) (by omega)

def zeros (n : Nat) : List Int := List.replicate n 0
set_option maxRecDepth 100000 in
set_option maxHeartbeats 2000000 in
theorem All_any (q : Option Addr) (f : Nat) (s : List Int) (n : Nat) (hn : s.length = n) (hl : n ≤ 1000000) (w : World) (h : Ints w q s) :
    Calls Try.prog 21 #[.slice q n f] w fun e w' => ∃ N1, w.heap.size ≤ N1 ∧ Below w.heap.size w w' ∧
      e = .returned (.func (.func 40) #[] #[.pointer (some ⟨N1, 0, none⟩), .pointer (some ⟨N1 + 1, 0, none⟩)]) ∧
      ∃ p1 p2 c1 c2, RangeAt N1 w'.heap.size N1 (N1 + 1) p1 p2 c1 c2 (zeros n) s w' := by
  subst hn
  go_enter Try.func21, Try.ntmps21
  go_wp2_with (at_make; refine make_ints rfl _ _ rfl s.length rfl rfl (by omega) ?_; intro w1 hown hg; have hb1 := below_grown hg; have hz : Ints w1 (some ⟨w.heap.size, 0, none⟩) (zeros s.length) := New.ints (B := 0) (e := 3) (.inr ⟨w.heap.size, rfl, Nat.zero_le _, hown⟩) (by intro x hx; unfold zeros at hx; rw [(List.mem_replicate.1 hx).2]; unfold I64; omega) (by unfold zeros; rw [List.length_replicate]; omega); have h1 := h.keep hb1; clear hown hg)
  refine (Between_any _ q s.length f (zeros s.length) s s.length s.length (by unfold zeros; rw [List.length_replicate]) rfl hl hl w1 hz h1).mono ?_
  rintro e1 w2 ⟨rfl, hR, hb2⟩
  have HR := Lib.hid hR
  clear hR
  go_wp2_with fail
  go_ret
  exact ⟨w1.heap.size, hb1.size, below_t hb1 hb2, rfl, HR.out⟩

theorem row_of {L : List (List Int)} {rs : List RowV} (h : rs.map RowV.v = L) {k : Nat} {r : RowV} (hr : rs[k]? = some r) : L[k]? = some r.v := by
  rw [← h, List.getElem?_map, hr]
  rfl
set_option maxRecDepth 100000 in
set_option maxHeartbeats 4000000 in
theorem Same_yes (B B' : Nat) (p q : Option Addr) (c f : Nat) (rs rt : List RowV) (hv : rs.map RowV.v = rt.map RowV.v) (n m : Nat) (hn : rs.length = n) (hm : rt.length = m) (hL : n ≤ 1000000) (h64 : ∀ r ∈ rs, (∀ x ∈ r.v, I64 x) ∧ r.v.length ≤ 1000000) (w : World) (h : RowsAt B w p rs) (h' : RowsAt B' w q rt) :
    Calls Try.prog 15 #[.slice p n c, .slice q m f] w fun e w' => e = .returned (.bool true) ∧ Below w.heap.size w w' := by
  have hlen : rt.length = rs.length := by have := congrArg List.length hv; rw [List.length_map, List.length_map] at this; exact this.symm
  subst hn hm
  rw [hlen]
  have HV := Lib.hid hv
  have HLEN := Lib.hid hlen
  have H64 := Lib.hid h64
  clear hv hlen h64
  have hne : ((rs.length : Int) != (rs.length : Int)) = false := by simp
  go_enter Try.func15, Try.ntmps15
  go_wp2_with fail
  go_loopw [5] (fun i wr => ∃ (k : Nat), k ≤ rs.length ∧ i = .int .i64 k ∧ Below w.heap.size w wr) (fun i _ => rs.length - (intOf i).toNat)
  case atStart => exact ⟨0, Nat.zero_le _, rfl, Below.refl _ _⟩
  case round =>
    obtain ⟨k, hk, rfl, hbr⟩ := hrel
    have h := h.keep hbr
    have h' := h'.keep hbr
    by_cases hlt : k < rs.length
    · have hi1 : (k : Int) < (rs.length : Int) := by omega
      obtain ⟨r, hr⟩ : ∃ r, rs[k]? = some r := ⟨_, List.getElem?_eq_getElem hlt⟩
      obtain ⟨t, ht⟩ : ∃ t, rt[k]? = some t := ⟨_, List.getElem?_eq_getElem (by have := HLEN.out; omega)⟩
      have hvv : r.v = t.v := by
        have e1 := row_of rfl hr
        have e2 := row_of rfl ht
        rw [HV.out, e2] at e1
        exact (Option.some.inj e1).symm
      obtain ⟨⟨b1, hp1, hl1, k1⟩, n1⟩ := h.at hr
      obtain ⟨⟨b2, hp2, hl2, k2⟩, n2⟩ := h'.at ht
      obtain ⟨h64, hsz⟩ := H64.out r (List.mem_of_getElem? hr)
      subst hp1 hp2
      have i1 : Ints wr r.p r.v := n1.ints h64 (by omega)
      have i2 : Ints wr t.p r.v := by rw [hvv]; exact n2.ints (by rw [← hvv]; exact h64) (by rw [← hvv]; omega)
      rw [← hvv] at k2
      have HC : Hid (∀ j, Calls Try.prog 19 #[.slice r.p r.v.length r.c, .slice t.p r.v.length t.c] (wr.drewN j) fun e w'' => e = .returned (.bool true) ∧ ∃ m, w'' = wr.drewN m) := fun j => by
        have := RefEqual_any r.p t.p r.c t.c r.v r.v (wr.drewN j) (i1.drew j) (i2.drew j)
        refine this.mono fun e w' ⟨he, n, hw⟩ => ⟨by rw [he]; simp [eqS], j + n, ?_⟩
        rw [hw, World.drewN_drewN]
      clear hr ht hvv n1 n2 h64 i1 i2
      go_wp2_with fail
      go_quiet ((go_at_call 19; exact HC.out _))
      go_wp2_with fail
      go_roundw
      case rel => exact ⟨k + 1, by omega, by go_num, below_t hbr (below_drewN _ _ _)⟩
      case measure => simp [intOf]; omega
    · have hi1 : ¬ (k : Int) < (rs.length : Int) := by omega
      go_wp2_with fail
      go_ret
      exact ⟨rfl, hbr⟩

theorem run_neq_seq (w : World) (fn : Fn) (fs lb : Array Value) : (binOp .neq 30 (.func fn fs lb) .nilFunc).run Try.prog w = .ok (.bool true) w := by
  have h := und_seq
  have h1 : ∀ d : Nat, (Op.equalIn (d + 1) 30 (.func fn fs lb) .nilFunc).run Try.prog w = .ok false w := fun d => by
    simp [Op.equalIn, run_underlying h]
  simp only [binOp]
  simp [Op.equal, Op.maxDepth, h1 9999]
theorem ok_awake : OdoOk [0, 1] [2, 3] := OdoOk.mk rfl (by decide) (i64_all (by decide)) (i64_all (by decide)) (fun _ => by decide +kernel)
theorem bet_awake : (betX [0, 1] [2, 3]).length = 4 := by decide +kernel
theorem a04_count (p q : Option Addr) (c f : Nat) (w : World) (h : Ints w p [0, 1]) (h' : Ints w q [2, 3]) :
    Calls Try.prog 17 #[.slice p 2 c, .slice q 2 f] w fun e w' => e = .returned (.int .i64 4) ∧ Below w.heap.size w w' :=
  Count_at p q c f [0, 1] [2, 3] ok_awake 4 bet_awake 2 2 rfl rfl w h h'
theorem a04_none (w : World) : Calls Try.prog 17 #[.slice none 0 0, .slice none 0 0] w fun e w' => e = .returned (.int .i64 1) ∧ Below w.heap.size w w' :=
  Count_at none none 0 0 [] [] (OdoOk.mk rfl (by decide) (by simp) (by simp) (fun _ => by decide +kernel)) 1 (by decide +kernel) 0 0 rfl rfl w (Ints.nil w) (Ints.nil w)
theorem a04_collect (p q : Option Addr) (c f : Nat) (w : World) (h : Ints w p [0, 1]) (h' : Ints w q [2, 3]) :
    Calls Try.prog 16 #[.slice p 2 c, .slice q 2 f] w fun e w' => (∃ p c, e = .returned (.slice p 4 c)) ∧ Below w.heap.size w w' := by
  refine (Collect_any p q c f [0, 1] [2, 3] ok_awake _ rfl (by rw [bet_awake]; decide) 2 2 rfl rfl w h h').mono fun e w' ⟨⟨pp, cc, rs, he, _, hv⟩, hb⟩ => ⟨⟨pp, cc, ?_⟩, hb⟩
  have := congrArg List.length hv
  rw [List.length_map, bet_awake] at this
  rw [he, this]
theorem a04_next (p q r : Option Addr) (c f d : Nat) (w : World) (h : Ints w p [0, 1]) (h' : Ints w q [2, 3]) (hx : Ints w r [0, 2]) :
    Calls Try.prog 36 #[.slice p 2 c, .slice q 2 f, .slice r 2 d] w fun e w' => (∃ pa ca, e = .returned (.tuple #[.slice pa 2 ca, .bool true]) ∧ Ints w' pa [1, 1]) ∧ Below w.heap.size w w' := by
  refine (Next_at p q r c f d [0, 1] [2, 3] [0, 2] 1 2 2 2 rfl rfl rfl rfl rfl (by decide) (by decide) (by decide) ⟨by decide, ?_, by decide⟩ true rfl [1, 1] rfl w h h' hx).mono fun e w' ⟨hr, hb⟩ => ⟨?_, hb⟩
  · intro i h1 h2
    have : i = 1 := by simp at h2; omega
    subst this
    decide
  · unfold NextRet at hr
    rw [if_pos rfl] at hr
    obtain ⟨pa, ca, he, hn⟩ := hr
    exact ⟨pa, ca, he, hn.ints (i64_all (by decide)) (by decide)⟩
theorem a04_last (p q r : Option Addr) (c f d : Nat) (w : World) (h : Ints w p [0, 1]) (h' : Ints w q [2, 3]) (hx : Ints w r [1, 2]) :
    Calls Try.prog 36 #[.slice p 2 c, .slice q 2 f, .slice r 2 d] w fun e w' => e = .returned (.tuple #[.slice none 0 0, .bool false]) ∧ Below w.heap.size w w' := by
  refine (Next_at p q r c f d [0, 1] [2, 3] [1, 2] 0 2 2 2 rfl rfl rfl rfl rfl (by decide) (by decide) (by decide) ⟨by decide, ?_, by decide⟩ false rfl _ rfl w h h' hx).mono fun e w' ⟨hr, hb⟩ => ⟨?_, hb⟩
  · intro i h1 h2
    have : i = 0 ∨ i = 1 := by simp at h2; omega
    rcases this with rfl | rfl <;> decide
  · unfold NextRet at hr
    rwa [if_neg (by decide)] at hr

set_option maxRecDepth 100000 in
set_option maxHeartbeats 8000000 in
theorem awake04 (w : World) : Calls Try.prog 12 #[] w fun e w' => e = .returned (.bool true) ∧ Below w.heap.size w w' := by
  have hneq := fun w fn fs lb => run_neq_seq w fn fs lb
  obtain ⟨W, hW, hb, hs, ht⟩ : ∃ W, (w.alloc (.cells #[.int .i64 0, .int .i64 1] 3)).alloc (.cells #[.int .i64 2, .int .i64 3] 3) = W ∧ Below w.heap.size w W ∧ Ints W (some ⟨w.heap.size, 0, none⟩) [0, 1] ∧ Ints W (some ⟨w.heap.size + 1, 0, none⟩) [2, 3] := by
    refine ⟨_, rfl, below_t (below_alloc _ _) (below_alloc _ _), (ints_lit w [0, 1] (by decide) (by decide)).keep (below_alloc _ _), ?_⟩
    have := ints_lit (w.alloc (.cells #[.int .i64 0, .int .i64 1] 3)) [2, 3] (by decide) (by decide)
    simpa using this
  have hWs : W.heap.size = w.heap.size + 1 + 1 := by rw [← hW]; simp
  have HW := Lib.hid hW
  have HWS := Lib.hid hWs
  clear hW hWs
  go_enter Try.func12, Try.ntmps12
  go_wp2_with fail
  rw [HW.out, ← HWS.out]
  clear HW HWS
  generalize some (⟨w.heap.size, 0, none⟩ : Addr) = P at hs ⊢
  generalize some (⟨w.heap.size + 1, 0, none⟩ : Addr) = P2 at ht ⊢
  have hla := below_alloc W (.cells #[.int .i64 0, .int .i64 2] 3)
  have hlit := ints_lit W [0, 2] (by decide) (by decide)
  have hs1 := hs.keep hla
  have ht1 := ht.keep hla
  refine (a04_next P P2 _ 2 2 2 _ hs1 ht1 hlit).mono ?_
  rintro e1 w1 ⟨⟨pa, ca, rfl, ha⟩, hb1⟩
  have hb1 := below_t hla hb1
  have hs := hs.keep hb1
  have ht := ht.keep hb1
  have hb := below_t hb hb1
  clear hla hlit hs1 ht1 hb1
  go_wp2_with fail
  have hla := below_alloc w1 (.cells #[.int .i64 1, .int .i64 2] 3)
  have hlit := ints_lit w1 [1, 2] (by decide) (by decide)
  have hs1 := hs.keep hla
  have ht1 := ht.keep hla
  have ha1 := ha.keep hla
  refine (a04_last P P2 _ 2 2 2 _ hs1 ht1 hlit).mono ?_
  rintro e2 w2 ⟨rfl, hb2⟩
  have hb2 := below_t hla hb2
  have hs := hs.keep hb2
  have ht := ht.keep hb2
  have ha := ha.keep hb2
  have hb := below_t hb hb2
  clear hla hlit hs1 ht1 ha1 hb2
  go_wp2_with fail
  refine (a04_count P P2 2 2 _ hs ht).mono ?_
  rintro e3 w3 ⟨rfl, hb3⟩
  have hs := hs.keep hb3
  have ht := ht.keep hb3
  have ha := ha.keep hb3
  have hb := below_t hb hb3
  clear hb3
  go_wp2_with fail
  have hla := below_alloc w3 (.cells #[.int .i64 1, .int .i64 1] 3)
  have hlit := ints_lit w3 [1, 1] (by decide) (by decide)
  have ha1 := ha.keep hla
  refine (RefEqual_is [1, 1] [1, 1] true (by decide) _ _ _ _ _ ha1 hlit).mono ?_
  rintro e4 w4 ⟨rfl, hb4⟩
  have hb4 := below_t hla hb4
  have hs := hs.keep hb4
  have ht := ht.keep hb4
  have hb := below_t hb hb4
  clear hla hlit ha1 hb4 ha
  go_wp2_with fail
  refine (a04_collect P P2 2 2 _ hs ht).mono ?_
  rintro e5 w5 ⟨⟨p5, c5, rfl⟩, hb5⟩
  have hb := below_t hb hb5
  clear hb5 hs ht
  go_wp2_with fail
  refine (a04_none _).mono ?_
  rintro e6 w6 ⟨rfl, hb6⟩
  have hb := below_t hb hb6
  clear hb6
  go_wp2_with fail
  have hla := below_alloc w6 (.cells #[.int .i64 2] 3)
  have hlit := ints_lit w6 [2] (by decide) (by decide)
  refine (All_any _ 1 [2] 1 rfl (by decide) _ hlit).mono ?_
  rintro e7 w7 ⟨N1, hN1, hb7, rfl, -⟩
  have hb := below_t hb (below_t hla hb7)
  go_wp2_with fail
  go_ret
  exact ⟨rfl, hb⟩
end Go.Proofs.Ythkfjiioekhkhaa
