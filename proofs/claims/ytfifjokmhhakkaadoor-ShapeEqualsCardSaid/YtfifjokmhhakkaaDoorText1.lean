/- shape.Text: the numbers' texts, joined. No condition beyond what each says. -/
import Derived.Test.YtfifjokmhhakkaaDoorAid
import Derived.Test.YtfifjokmhhakkaaDoorApp
import Derived.Test.YtfifjokmhhakkaaDoorShelf
namespace Go.Proofs.YtfifjokmhhakkaaDoor
open Go.RowKit Go.Shelf
set_option linter.unusedVariables false
set_option linter.unusedSimpArgs false

theorem info_str : (Tryd.prog.info? 9).map (fun i => (i.zero, i.size, i.bytes)) = some (some (.string ⟨#[]⟩), 1, 16) := by kernel_rfl
theorem str_one (x : ByteArray) : ∀ u ∈ [Value.string x], u.oneCell' = true := by
  intro u hu
  rw [List.mem_singleton] at hu
  subst hu
  rfl
/-- 'append(own, s)' at []string -/
theorem append_str {w : World} {ops : Array Oper} {rest : List Oper} {o : Oper} {a : Act} {Q : Exit → Act → World → Prop} (hgd : o.guard = none) (s x : Operand)
    (ho : o.op = .call { callee := .builtin .append, args := #[s, x], argTypes := #[42, 42] })
    (base : Nat) (v : Value) (n : Nat) (xs : List Value) (hs : a.eval s = v) (hown : w.ownsRow base 9 1 v n xs)
    (p : Option Addr) (c : Nat) (y : ByteArray) (hx : a.eval x = .slice p 1 c) (hsrc : Cells w p [.string y])
    (hbig : n + 1 ≤ 1099511627776) (hbase : base ≤ w.heap.size)
    (h : ∀ v' w', w'.ownsRow base 9 1 v' (n + 1) (xs ++ [.string y]) → w.grownBy w' v.ownBlock → wpList Tryd.prog ops Q rest (a.put o.dst v') w') : wpList Tryd.prog ops Q (o :: rest) a w :=
  wpList_append_src hgd s x 42 ho base 9 (.string ⟨#[]⟩) 1 16 Tryd.underlying42 info_str rfl (by decide) v n xs hs hown p 1 c _ hx (by simp) hsrc (str_one y) hbig (by omega) hbase h

theorem row_keep0 {a b : World} {B size n : Nat} {e : TypeId} {v : Value} {xs : List Value} (h : a.ownsRow B e size v n xs) (hb : Below a.heap.size a b) : b.ownsRow B e size v n xs := by
  obtain ⟨h1, h2⟩ := h
  refine ⟨h1, ?_⟩
  rcases h2 with h2 | ⟨g, cap, cur, rfl, h3, h4, h5⟩
  · exact .inl h2
  · exact .inr ⟨g, cap, cur, rfl, h3, (hb.block g (Array.getElem?_eq_some_iff.1 h4).1).trans h4, h5⟩
/-- the texts of numbers, as strings -/
def txtB (T : Int → List UInt8) (x : Int) : ByteArray := ⟨(T x).toArray⟩
def txtV (T : Int → List UInt8) (xs : List Int) : List Value := xs.map fun x => .string (txtB T x)
theorem txt_take {T : Int → List UInt8} {xs : List Int} {k : Nat} (hk : k < xs.length) : txtV T (xs.take (k + 1)) = txtV T (xs.take k) ++ [.string (txtB T (nth xs k))] := by
  unfold txtV
  rw [take_nth hk, List.map_append]
  rfl
theorem txt_len {T : Int → List UInt8} {xs : List Int} : (txtV T xs).length = xs.length := List.length_map ..
/-- the text of a list of numbers -/
def textS (T : Int → List UInt8) (xs : List Int) : ByteArray := ⟨(Lib.join (xs.map T) [32]).toArray⟩

set_option maxRecDepth 100000 in
set_option maxHeartbeats 2000000 in
theorem Text_any (T : Int → List UInt8) (p : Option Addr) (c : Nat) (xs : List Int) (hl : xs.length ≤ 1000) (hJ : (Lib.join (xs.map T) [32]).length ≤ 140737488355328) (w : World) (h : Ints w p xs)
    (hI : ∀ k, k < xs.length → ∀ z, Below w.heap.size w z → Calls Tryd.prog 27 #[.int .i64 (nth xs k)] z fun e w' => e = .returned (.string (txtB T (nth xs k))) ∧ Below z.heap.size z w') :
    Calls Tryd.prog 15 #[.slice p xs.length c] w fun e w' => e = .returned (.string (textS T xs)) ∧ Below w.heap.size w w' := by
  have HI := Lib.hid hI
  have HJ := Lib.hid hJ
  clear hI hJ
  go_enter Tryd.func15, Tryd.ntmps15
  go_wp2_with fail
  go_loopw [3, 8] (fun o i wr => ∃ (k : Nat) (v : Value), k ≤ xs.length ∧ o = v ∧ i = .int .i64 k ∧ Hid (wr.ownsRow w.heap.size 9 1 v k (txtV T (xs.take k)) ∧ Below w.heap.size w wr)) (fun _ i _ => xs.length - (intOf i).toNat)
  case atStart => exact ⟨0, _, Nat.zero_le _, rfl, rfl, World.ownsRow_nil _ _ _ _, Below.refl _ _⟩
  case round =>
    obtain ⟨k, v, hk, rfl, rfl, HS⟩ := hrel
    by_cases hlt : k < xs.length
    · have hi1 : (k : Int) < (xs.length : Int) := by omega
      obtain ⟨b, o, rfl, hb, hc⟩ := (h.keep HS.out.2).at hlt
      have hC := Lib.hid (HI.out k hlt wr HS.out.2)
      have hT := Lib.hid (txt_take (T := T) hlt)
      obtain ⟨x, hx⟩ : ∃ x, nth xs k = x := ⟨_, rfl⟩
      rw [hx] at hC hT hc
      obtain ⟨t, ht⟩ : ∃ t, txtB T x = t := ⟨_, rfl⟩
      rw [ht] at hC hT
      clear hx ht
      go_wp2_with fail
      refine hC.out.mono ?_
      rintro e1 w1 ⟨rfl, hb1⟩
      have hrow := Lib.hid (row_keep0 HS.out.1 hb1)
      have hbz := Lib.hid (below_t HS.out.2 hb1)
      have hsz := hbz.out.size
      clear hC hc
      go_wp2_with (at_builtin; refine append_str rfl (.tmp 12) (.tmp 15) rfl w.heap.size _ k _ rfl (hrow.out.alloc _) (some ⟨w1.heap.size, 0, none⟩) 1 t rfl (cells_one _ _ _ _ rfl) (by omega) (by simp; omega) ?_; intro v2 w2 hown2 hg2; have hb2 := below_append hbz.out hrow.out hg2; rw [← hT.out] at hown2)
      go_roundw
      case rel => exact ⟨k + 1, _, by omega, rfl, by go_num, hown2, hb2⟩
      case measure => simp [intOf]; omega
    · have hi1 : ¬ (k : Int) < (xs.length : Int) := by omega
      obtain rfl : k = xs.length := by omega
      have hrow := HS.out.1
      rw [List.take_length] at hrow
      have hbz := HS.out.2
      have hrow' := hrow
      rcases hrow with ⟨h1, ⟨rfl, h0⟩ | ⟨g, cap, cur, rfl, hgb, hg, hle, hm, hcs, ht⟩⟩
      · have hn : xs = [] := List.eq_nil_of_length_eq_zero h0
        subst hn
        clear HS hrow'
        go_wp2_with fail
        refine (Tryd.strings_Join_none none 0 ⟨#[32]⟩ wr).mono ?_
        rintro e1 w1 ⟨rfl, rfl⟩
        go_wp2_with fail
        go_ret
        exact ⟨rfl, hbz⟩
      · have hcell : ∀ (j : Nat) x, (xs.map (txtB T))[j]? = some x → wr.cell? ⟨g, 0 + j, none⟩ = some (.string x) := by
          intro j y hy
          have hjl : j < xs.length := by
            have := (List.getElem?_eq_some_iff.1 hy).1
            rwa [List.length_map] at this
          have hv : (txtV T xs)[j]? = some (.string y) := by
            unfold txtV
            rw [List.getElem?_map] at hy ⊢
            cases hx : xs[j]? with
            | none => rw [hx] at hy; cases hy
            | some x => rw [hx] at hy; injection hy with hy; subst hy; rfl
          have := hrow'.cells (g := g) rfl j _ hv
          rw [Addr.add_lit] at this
          exact this
        have hglt := (Array.getElem?_eq_some_iff.1 hg).1
        have hmap : (xs.map (txtB T)).map (fun x => x.data.toList) = xs.map T := by
          rw [List.map_map]
          exact List.map_congr_left fun x _ => by simp [txtB]
        have hJn := Tryd.strings_Join g 0 cap (xs.map (txtB T)) ⟨#[32]⟩ wr hcell hglt (by rw [List.length_map]; omega) (by rw [List.length_map]; exact hle) (by rw [hmap]; exact HJ.out)
        rw [hmap, List.length_map] at hJn
        have HJN := Lib.hid hJn
        clear HS hJn hmap hcell ht hcs hg hrow'
        go_wp2_with fail
        refine HJN.out.mono ?_
        rintro e1 w1 ⟨rfl, hb1⟩
        go_wp2_with fail
        go_ret
        exact ⟨rfl, below_t hbz hb1⟩
end Go.Proofs.YtfifjokmhhakkaaDoor
