/- The rules of all kinds of trees: tree.rules, a map that the call makes; looking one up. No condition beyond what each says. -/
import Derived.Test.YtjehgcmcphgofaaTr9
import Derived.Maps.Own
import Derived.Carry
namespace Go.Proofs.Ytjehgcmcphgofaa
open Go.RowKit Go.Shelf
set_option linter.unusedVariables false
set_option linter.unusedSimpArgs false

/-- a rule as a value -/
def ruleV (p : Option Addr) (n : Nat) (a : Option Addr) (m : Nat) (k : Int) : Value := .agg #[.slice p n n, .slice a m m, .int .i64 k]
/-- an entry that is new -/
theorem wpList_insert {w : World} {ops : Array Oper} {rest : List Oper} {o : Oper} {a : Act} {Q : Exit → Act → World → Prop}
    (hg : o.guard = none) (m x v : Operand) (t : TypeId) (hop : o.op = Op.insert t m x v) (k e : TypeId) (ht : Try.prog.underlying t = some (.map k e)) (hk : Try.prog.underlying k = some (.int .i64))
    (b : Nat) (es : Array MapEntry) (clock : Nat) (hm : a.eval m = .map (some b)) (y : Int) (hx : a.eval x = .int .i64 y) (u : Value) (hv : a.eval v = u) (hb : w.heap[b]? = some (.map es clock)) (hno : Instr.findNow (.int .i64) (.int .i64 y) es.toList 0 = some none)
    (h : ∀ w', w'.heap[b]? = some (.map (es.push { key := .int .i64 y, val := u, born := clock }) (clock + 1)) → w.grownBy w' (some b) → w'.heap.size = w.heap.size → wpList Try.prog ops Q rest (a.put o.dst undef) w') : wpList Try.prog ops Q (o :: rest) a w := by
  refine wpList_plain hg fun K' hK' => ?_
  unfold Oper.wp
  have hkey : MapKept.IsKey (.int .i64) (.int .i64 y) := by simp [MapKept.IsKey]
  simp [execOp, hop, hm, hx, hv, Instr.mapUpdate, run_underlying ht, MapKept.run_getObj_map hb, MapKept.run_checkKey hk hkey, MapKept.run_findKey hk hno, MapKept.run_setObj_map _ hb, Result.andThen]
  refine hK' _ _ (h _ ?_ ⟨rfl, rfl, rfl, by simp, fun j hj hne => ?_⟩ (by simp))
  · exact (MapKept.heap_set hb).1
  · exact (MapKept.heap_set hb).2 j (fun e => hne (by rw [e]))
theorem own_ne_map {w : World} {g b : Nat} {e : TypeId} {vs : List Value} {es : Array MapEntry} {c : Nat} (h : Own w g e vs) (hb : w.heap[b]? = some (.map es c)) : some g ≠ some b := by
  intro e1
  cases e1
  obtain ⟨r, ho⟩ := h
  rw [ho] at hb
  cases hb

structure RulesAt (w : World) (b : Nat) (p1 p2 p3 a3 p4 a4 : Nat) : Prop where
  map : w.heap[b]? = some (.map #[⟨.int .i64 1, ruleV (some ⟨p1, 0, none⟩) 1 none 0 0, 0⟩, ⟨.int .i64 2, ruleV (some ⟨p2, 0, none⟩) 1 none 0 0, 1⟩, ⟨.int .i64 3, ruleV (some ⟨p3, 0, none⟩) 3 (some ⟨a3, 0, none⟩) 1 1, 2⟩, ⟨.int .i64 4, ruleV (some ⟨p4, 0, none⟩) 6 (some ⟨a4, 0, none⟩) 2 2, 3⟩] 4)
  r1 : Own w p1 3 [.int .i64 0]
  r2 : Own w p2 3 [.int .i64 0]
  r3 : Own w p3 3 [.int .i64 3, .int .i64 4, .int .i64 6]
  x3 : Own w a3 3 [.int .i64 3]
  r4 : Own w p4 3 [.int .i64 1, .int .i64 2, .int .i64 3, .int .i64 4, .int .i64 5, .int .i64 6]
  x4 : Own w a4 3 [.int .i64 3, .int .i64 6]
def RulesRet (w : World) (e : Ending) (w' : World) : Prop := (∃ b p1 p2 p3 a3 p4 a4, e = .returned (.map (some b)) ∧ RulesAt w' b p1 p2 p3 a3 p4 a4) ∧ Below w.heap.size w w'

structure Rows (W : World) (rs : List (Nat × List Value)) : Prop where
  own : ∀ r ∈ rs, Own W r.1 3 r.2
theorem Rows.grown {W W' : World} {rs : List (Nat × List Value)} {b : Nat} {es : Array MapEntry} {c : Nat} (h : Rows W rs) (hm : W.heap[b]? = some (.map es c)) (hg : W.grownBy W' (some b)) : Rows W' rs :=
  ⟨fun r hr => (h.own r hr).grown hg (own_ne_map (h.own r hr) hm)⟩
theorem Rows.alloc {W : World} {rs : List (Nat × List Value)} (h : Rows W rs) (vs : List Value) : Rows (W.alloc (.cells vs.toArray 3)) ((W.heap.size, vs) :: rs) :=
  ⟨fun r hr => by
    rcases List.mem_cons.1 hr with rfl | hr
    · exact Own.made W _ vs _ rfl
    · exact (h.own r hr).keep (below_alloc W _) (h.own r hr).lt⟩

set_option maxRecDepth 100000 in
set_option maxHeartbeats 1000000 in
theorem rules_any (w : World) : Calls Try.prog 43 #[] w (RulesRet w) := by
  have hmm := @run_makeMap Try.prog
  obtain ⟨V1, hV1, z1, hB1m, R1, bl1⟩ : ∃ V1, ((w.alloc (.cells #[.int .i64 1, .int .i64 2, .int .i64 3, .int .i64 4, .int .i64 5, .int .i64 6] 3)).alloc (.map #[] 0)).alloc (.cells #[.int .i64 0] 3) = V1 ∧ V1.heap.size = w.heap.size + 3 ∧ V1.heap[w.heap.size + 1]? = some (.map #[] 0) ∧
      Rows V1 [(w.heap.size, [.int .i64 1, .int .i64 2, .int .i64 3, .int .i64 4, .int .i64 5, .int .i64 6]), (w.heap.size + 2, [.int .i64 0])] ∧ Below w.heap.size w V1 := by
    have oa := Own.made w w.heap.size [.int .i64 1, .int .i64 2, .int .i64 3, .int .i64 4, .int .i64 5, .int .i64 6] 3 rfl
    have ba := below_alloc w (.cells #[.int .i64 1, .int .i64 2, .int .i64 3, .int .i64 4, .int .i64 5, .int .i64 6] 3)
    have bb := below_alloc (w.alloc (.cells #[.int .i64 1, .int .i64 2, .int .i64 3, .int .i64 4, .int .i64 5, .int .i64 6] 3)) (.map #[] 0)
    have bc := below_alloc ((w.alloc (.cells #[.int .i64 1, .int .i64 2, .int .i64 3, .int .i64 4, .int .i64 5, .int .i64 6] 3)).alloc (.map #[] 0)) (.cells #[.int .i64 0] 3)
    have mm := heap_alloc_new (w.alloc (.cells #[.int .i64 1, .int .i64 2, .int .i64 3, .int .i64 4, .int .i64 5, .int .i64 6] 3)) (.map #[] 0)
    have zz : (w.alloc (.cells #[.int .i64 1, .int .i64 2, .int .i64 3, .int .i64 4, .int .i64 5, .int .i64 6] 3)).heap.size = w.heap.size + 1 := by simp
    rw [zz] at mm
    have oa2 := oa.keep bb oa.lt
    have ob := Own.made ((w.alloc (.cells #[.int .i64 1, .int .i64 2, .int .i64 3, .int .i64 4, .int .i64 5, .int .i64 6] 3)).alloc (.map #[] 0)) (w.heap.size + 2) [.int .i64 0] 3 (by simp)
    refine ⟨_, rfl, by simp, (bc.block _ (by simp)).trans mm, ⟨fun r hr => ?_⟩, below_t ba (below_t bb bc)⟩
    rcases List.mem_cons.1 hr with rfl | hr
    · exact oa2.keep bc oa2.lt
    · obtain rfl := List.mem_singleton.1 hr
      exact ob
  have HV1 := Lib.hid hV1
  clear hV1
  go_enter Try.func43, Try.ntmps43
  go_wp2_with (first
    | (refine wpList_insert rfl _ _ _ 53 rfl 3 51 Try.underlying53 Try.underlying3 (w.heap.size + 1) _ 0 rfl 1 rfl (ruleV (some ⟨w.heap.size + 2, 0, none⟩) 1 none 0 0) rfl (by rw [HV1.out]; exact hB1m) rfl ?_
       rw [HV1.out]
       intro W2 hm2 hg2 hz2
       have HZ2 : Hid (w.heap.size + 1 < W2.heap.size) := by rw [Hid, hz2, z1]; omega
       clear hz2
       have R2a := R1.grown hB1m hg2
       have bl2 := bl1.grown hg2 (by have := bl1.size; omega) (fun k hk => by cases hk; omega)
       have R2b := R2a.alloc [.int .i64 0]
       have m2b := ((below_alloc W2 (.cells #[.int .i64 0] 3)).block (w.heap.size + 1) (by have := HZ2.out; omega)).trans hm2
       have bl2b := below_t bl2 (below_alloc W2 (.cells #[.int .i64 0] 3))
       have R2 := Lib.hid R2b
       have hB2m := m2b
       have bl2 := bl2b
       clear hg2)
    | (refine wpList_insert rfl _ _ _ 53 rfl 3 51 Try.underlying53 Try.underlying3 (w.heap.size + 1) _ 1 rfl 2 rfl (ruleV (some ⟨W2.heap.size, 0, none⟩) 1 none 0 0) rfl hB2m rfl ?_
       intro W3 hm3 hg3 hz3
       have HZ3 : Hid (w.heap.size + 1 < W3.heap.size) := by have := HZ2.out; rw [Hid, hz3]; simp; omega
       clear hz3
       have R3a := R2.out.grown hB2m hg3
       have bl3 := bl2.grown hg3 (by have := bl2.size; omega) (fun k hk => by cases hk; omega)
       have R3b := R3a.alloc [.int .i64 3, .int .i64 4, .int .i64 6]
       have m3b := ((below_alloc W3 (.cells #[.int .i64 3, .int .i64 4, .int .i64 6] 3)).block (w.heap.size + 1) (by have := HZ3.out; omega)).trans hm3
       have bl3b := below_t bl3 (below_alloc W3 (.cells #[.int .i64 3, .int .i64 4, .int .i64 6] 3))
       have R3c := R3b.alloc [.int .i64 3]
       have m3c := ((below_alloc (W3.alloc (.cells #[.int .i64 3, .int .i64 4, .int .i64 6] 3)) (.cells #[.int .i64 3] 3)).block (w.heap.size + 1) (by have := HZ3.out; simp; omega)).trans m3b
       have bl3c := below_t bl3b (below_alloc (W3.alloc (.cells #[.int .i64 3, .int .i64 4, .int .i64 6] 3)) (.cells #[.int .i64 3] 3))
       have R3 := Lib.hid R3c
       have hB3m := m3c
       have bl3 := bl3c
       clear hg3)
    | (refine wpList_insert rfl _ _ _ 53 rfl 3 51 Try.underlying53 Try.underlying3 (w.heap.size + 1) _ 2 rfl 3 rfl (ruleV (some ⟨W3.heap.size, 0, none⟩) 3 (some ⟨W3.heap.size + 1, 0, none⟩) 1 1) rfl hB3m rfl ?_
       intro W4 hm4 hg4 hz4
       have HZ4 : Hid (w.heap.size + 1 < W4.heap.size) := by have := HZ3.out; rw [Hid, hz4]; simp; omega
       clear hz4
       have R4a := R3.out.grown hB3m hg4
       have bl4 := bl3.grown hg4 (by have := bl3.size; omega) (fun k hk => by cases hk; omega)
       have R4b := R4a.alloc [.int .i64 3, .int .i64 6]
       have m4b := ((below_alloc W4 (.cells #[.int .i64 3, .int .i64 6] 3)).block (w.heap.size + 1) (by have := HZ4.out; omega)).trans hm4
       have bl4b := below_t bl4 (below_alloc W4 (.cells #[.int .i64 3, .int .i64 6] 3))
       have R4 := Lib.hid R4b
       have hB4m := m4b
       have bl4 := bl4b
       clear hg4)
    | (refine wpList_insert rfl _ _ _ 53 rfl 3 51 Try.underlying53 Try.underlying3 (w.heap.size + 1) _ 3 rfl 4 rfl (ruleV (some ⟨w.heap.size, 0, none⟩) 6 (some ⟨W4.heap.size, 0, none⟩) 2 2) rfl hB4m rfl ?_
       intro W5 hm5 hg5 hz5
       have HZ5 : Hid (w.heap.size + 1 < W5.heap.size) := by have := HZ4.out; rw [Hid, hz5]; simp; omega
       clear hz5
       have R5a := R4.out.grown hB4m hg5
       have bl5 := bl4.grown hg5 (by have := bl4.size; omega) (fun k hk => by cases hk; omega)
       have R5 := Lib.hid R5a
       have hB5m := hm5
       have bl5 := bl5
       clear hg5)
    | fail)
  go_ret
  have RR := R5.out
  have g1 := RR.own (w.heap.size + 2, [.int .i64 0]) (by simp)
  have g2 := RR.own (W2.heap.size, [.int .i64 0]) (by simp)
  have g3 := RR.own (W3.heap.size, [.int .i64 3, .int .i64 4, .int .i64 6]) (by simp)
  have g3' := RR.own (W3.heap.size + 1, [.int .i64 3]) (by simp)
  have g4 := RR.own (w.heap.size, [.int .i64 1, .int .i64 2, .int .i64 3, .int .i64 4, .int .i64 5, .int .i64 6]) (by simp)
  have g4' := RR.own (W4.heap.size, [.int .i64 3, .int .i64 6]) (by simp)
  exact ⟨⟨_, _, _, _, _, _, _, rfl, ⟨hB5m, g1, g2, g3, g3', g4, g4'⟩⟩, bl5⟩
end Go.Proofs.Ytjehgcmcphgofaa
