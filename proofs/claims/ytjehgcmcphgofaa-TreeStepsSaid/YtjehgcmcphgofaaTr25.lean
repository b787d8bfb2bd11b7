/- Names of the reference. No condition beyond what each says. -/
import Derived.Test.YtjehgcmcphgofaaTr24
namespace Go.Proofs.Ytjehgcmcphgofaa
open Go.RowKit Go.Shelf
set_option linter.unusedVariables false
set_option linter.unusedSimpArgs false

theorem texts_of_row {w : World} {B : Nat} {v : Value} {ns : List ByteArray} (h : w.ownsRow B 9 1 v ns.length (ns.map .string)) (hs : ns.length ≤ 9223372036854775807) : ∃ p c, v = .slice p ns.length c ∧ Texts w p ns := by
  obtain ⟨p, c, hv, hn⟩ := row_new h
  rw [List.length_map] at hv
  exact ⟨p, c, hv, hn.cells, hs⟩
theorem namesL_take {L : List TV} {k : Nat} {x : TV} (h : L[k]? = some x) : namesL (L.take (k + 1)) = addN (namesL (L.take k)) x := by
  rw [List.take_add_one, h]
  exact namesL_snoc _ _
theorem namesL_le (L : List TV) (k : Nat) : (namesL (L.take k)).length ≤ L.length := Nat.le_trans (namesL_len _) (by simp; omega)
theorem str_cell (w : World) (b : Nat) (s : ByteArray) (hb : b = w.heap.size) : Cells (w.alloc (.cells #[.string s] 9)) (some ⟨b, 0, none⟩) [.string s] := cells_one w b _ _ hb
/-- 'append(texts, s)' -/
theorem append_text {w : World} {ops : Array Oper} {rest : List Oper} {o : Oper} {a : Act} {Q : Exit → Act → World → Prop} (hgd : o.guard = none) (s x : Operand)
    (ho : o.op = .call { callee := .builtin .append, args := #[s, x], argTypes := #[35, 35] })
    (base : Nat) (v : Value) (ns : List ByteArray) (n : Nat) (hn : ns.length = n) (hs : a.eval s = v) (hown : w.ownsRow base 9 1 v n (ns.map .string))
    (p : Option Addr) (c : Nat) (t : ByteArray) (hx : a.eval x = .slice p 1 c) (hsrc : Cells w p [.string t])
    (hbig : n + 1 ≤ 1099511627776) (hbase : base ≤ w.heap.size)
    (h : ∀ v' w', w'.ownsRow base 9 1 v' (ns ++ [t]).length ((ns ++ [t]).map .string) → w.grownBy w' v.ownBlock → wpList Try.prog ops Q rest (a.put o.dst v') w') : wpList Try.prog ops Q (o :: rest) a w :=
  wpList_append_src hgd s x 35 ho base 9 _ 1 16 Try.underlying35 info_str rfl (by decide) v n _ hs hown p 1 c _ hx (by rfl) hsrc (by simp [Value.oneCell']) hbig (by omega) hbase fun v' w' h1 h2 => h v' w' (by subst hn; rw [List.length_append, List.map_append]; exact h1) h2

set_option maxHeartbeats 2000000 in
theorem RNames_any (t : TV) (hs : sizeT t ≤ 1000000) (w : World) (h : TreeIn w t) :
    Calls Try.prog 22 #[.agg #[.int .i64 t.d.kind, .int .i64 t.d.fn, .int .i64 t.d.axis, .string t.d.name, .slice t.d.np t.d.nums.length t.d.nc, .slice t.d.kp t.d.n t.d.kc]] w fun e w' => ∃ p c, e = .returned (.slice p (namesL (stepsT t)).length c) ∧ Texts w' p (namesL (stepsT t)) ∧ Below w.heap.size w w' := by
  have hba := below_alloc w (.cells #[.int .i64 t.d.kind, .int .i64 t.d.fn, .int .i64 t.d.axis, .string t.d.name, .slice t.d.np t.d.nums.length t.d.nc, .slice t.d.kp t.d.n t.d.kc] 25)
  have HC := Lib.hid (RSteps_any t _ hs (h.keep hba))
  obtain ⟨L, hL⟩ : ∃ L, stepsT t = L := ⟨_, rfl⟩
  have hLs : L.length ≤ 1000000 := by rw [← hL, stepsT_len]; exact hs
  have HL := Lib.hid hL
  have HBA := Lib.hid hba
  clear h hs hL hba
  go_enter Try.func22, Try.ntmps22
  go_wp2_with fail
  refine HC.out.mono ?_
  rintro e W ⟨p, c, rfl, hN, hb⟩
  rw [HL.out] at hN ⊢
  have HN := Lib.hid hN
  have HB := Lib.hid (below_t HBA.out hb)
  clear HBA HC hN hb
  go_wp2_with fail
  go_loopw [3, 5] (fun x i wr => ∃ (k : Nat) (wz : World), wz = wr ∧ k ≤ L.length ∧ i = .int .i64 k ∧ Hid (wz.ownsRow W.heap.size 9 1 x (namesL (L.take k)).length ((namesL (L.take k)).map .string)) ∧ Hid (Below W.heap.size W wz)) (fun _ i _ => L.length - (intOf i).toNat)
  case atStart => exact ⟨0, W, rfl, Nat.zero_le _, rfl, World.ownsRow_nil _ _ _ _, Below.refl _ _⟩
  case round =>
    obtain ⟨k, wz, rfl, hk, rfl, HR, HBz⟩ := hrel
    have hle := namesL_le L k
    obtain ⟨p2, c2, rfl, hTx⟩ := texts_of_row HR.out (by omega)
    by_cases hlt : k < L.length
    · obtain ⟨x, hx⟩ : ∃ x, L[k]? = some x := ⟨_, List.getElem?_eq_getElem hlt⟩
      have hi1 : (k : Int) < (L.length : Int) := by omega
      obtain ⟨g, o, rfl, hg, N, -⟩ := (HN.out.keep HBz.out).at hx
      have c0 := N.c0
      have c3 := N.c3
      have hkey := namesL_take hx
      have hbs := HBz.out.size
      clear N
      by_cases hk2 : x.d.kind = 2
      rotate_left
      · have ek : (x.d.kind == 2) = false := by rw [beq_eq_false_iff_ne]; exact hk2
        have HR1 : Hid (wz.ownsRow W.heap.size 9 1 (.slice p2 (namesL (L.take k)).length c2) (namesL (L.take (k + 1))).length ((namesL (L.take (k + 1))).map .string)) := by rw [Hid, hkey, addN_no hk2]; exact HR.out
        clear hk2 hkey hTx hx
        go_wp2_with fail
        go_roundw
        case rel => exact ⟨k + 1, wz, rfl, by omega, by go_num, HR1, HBz⟩
        case measure => simp [intOf]; omega
      · have ek : (x.d.kind == 2) = true := by rw [beq_iff_eq]; exact hk2
        cases hh : hasN (namesL (L.take k)) x.d.name with
        | true =>
          have HR1 : Hid (wz.ownsRow W.heap.size 9 1 (.slice p2 (namesL (L.take k)).length c2) (namesL (L.take (k + 1))).length ((namesL (L.take (k + 1))).map .string)) := by rw [Hid, hkey, addN_has hh]; exact HR.out
          have HCn := Lib.hid (In_any x.d.name p2 c2 (namesL (L.take k)) _ rfl _ hh wz hTx)
          clear hk2 hkey hTx hx hh
          go_wp2_with fail
          refine HCn.out.mono ?_
          rintro e1 w1 ⟨rfl, rfl⟩
          go_wp2_with fail
          go_roundw
          case rel => exact ⟨k + 1, wz, rfl, by omega, by go_num, HR1, HBz⟩
          case measure => simp [intOf]; omega
        | false =>
          have HCn := Lib.hid (In_any x.d.name p2 c2 (namesL (L.take k)) _ rfl _ hh wz hTx)
          have HKey : Hid (namesL (L.take (k + 1)) = namesL (L.take k) ++ [x.d.name]) := by rw [Hid, hkey, addN_new hk2 hh]
          clear hk2 hkey hTx hx hh
          go_wp2_with fail
          refine HCn.out.mono ?_
          rintro e1 w1 ⟨rfl, rfl⟩
          go_wp2_with (at_builtin; refine append_text rfl (.tmp 30) (.tmp 36) rfl W.heap.size _ (namesL (L.take k)) _ rfl rfl (HR.out.alloc _) (some ⟨wz.heap.size, 0, none⟩) 1 x.d.name rfl (str_cell wz _ _ rfl) (by omega) (by simp; omega) ?_; intro v2 w2 o2 g2; have HR1 := Lib.hid o2; have HB1 := Lib.hid ((HBz.out.alloc hbs (.cells #[.string x.d.name] 9)).grown g2 (by simp; omega) fun i hi => (row_lt (HR.out.alloc (.cells #[.string x.d.name] 9)) hi).1))
          rw [← HKey.out] at HR1
          go_roundw
          case rel => exact ⟨k + 1, w2, rfl, by omega, by go_num, HR1, HB1⟩
          case measure => simp [intOf]; omega
    · have hkn : k = L.length := by omega
      have HT : Hid (Texts wz p2 (namesL L)) := by have := hTx; rwa [hkn, List.take_length] at this
      have HBf := Lib.hid (below_t HB.out HBz.out)
      rw [hkn, List.take_length]
      clear hTx
      go_wp2_with fail
      go_ret
      rw [HL.out]
      exact ⟨p2, c2, rfl, HT.out, HBf.out⟩
end Go.Proofs.Ytjehgcmcphgofaa
