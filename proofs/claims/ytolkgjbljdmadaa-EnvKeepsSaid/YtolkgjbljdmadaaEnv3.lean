/- The map of places of an environment; env's find, right and copied. No condition beyond what each says. -/
import Derived.Test.YtolkgjbljdmadaaEnv2
import Derived.Test.YtolkgjbljdmadaaApp
import Derived.Test.YtolkgjbljdmadaaSpec1
import Derived.Maps.OwnSet
import Derived.StringKeys
import Derived.Deep.AppendLies
namespace Go.Proofs.Ytolkgjbljdmadaa
open Go.RowKit Go.Shelf
set_option linter.unusedVariables false
set_option linter.unusedSimpArgs false

def skey (x : ByteArray) : Lit := .string x.data.toList
theorem skey_inj {x y : ByteArray} (h : skey x = skey y) : x = y := by
  unfold skey at h
  injection h with h
  obtain ⟨x⟩ := x
  obtain ⟨y⟩ := y
  exact congrArg ByteArray.mk (Array.ext' h)
/-- the map with the places of names -/
def placeD (ns : List ByteArray) : DataW Unit := (ns.foldl (fun (s : DataW Unit × Nat) x => (s.1.put (skey x) (.lit (.int .i64 s.2)), s.2 + 1)) (.map [], 0)).1
theorem placeD_fold (ns : List ByteArray) (D : DataW Unit) : ∀ n : Nat, (ns.foldl (fun (s : DataW Unit × Nat) x => (s.1.put (skey x) (.lit (.int .i64 s.2)), s.2 + 1)) (D, n)).2 = n + ns.length := by
  induction ns generalizing D with
  | nil => intro n; rfl
  | cons x ns ih => intro n; rw [List.foldl_cons, ih, List.length_cons]; omega
theorem placeD_snoc (ns : List ByteArray) (x : ByteArray) : placeD (ns ++ [x]) = (placeD ns).put (skey x) (.lit (.int .i64 ns.length)) := by
  unfold placeD
  rw [List.foldl_append, List.foldl_cons, List.foldl_nil, placeD_fold, Nat.zero_add]
theorem snoc_cases {α : Type} (l : List α) : l = [] ∨ ∃ ys y, l = ys ++ [y] := by
  rcases List.eq_nil_or_concat l with h | ⟨ys, y, h⟩
  · exact .inl h
  · exact .inr ⟨ys, y, by rw [h, List.concat_eq_append]⟩
theorem snoc_ind {α : Type} {P : List α → Prop} (h0 : P []) (h1 : ∀ ys y, P ys → P (ys ++ [y])) (l : List α) : P l := by
  have : ∀ n (l : List α), l.length = n → P l := by
    intro n
    induction n with
    | zero => intro l hl; rw [List.eq_nil_of_length_eq_zero hl]; exact h0
    | succ n ih =>
      intro l hl
      rcases snoc_cases l with h | ⟨ys, y, h⟩
      · subst h; exact h0
      · subst h
        exact h1 ys y (ih ys (by simp at hl; omega))
  exact this l.length l rfl
theorem placeD_map (ns : List ByteArray) : Maps.IsMap (placeD ns) := by
  induction ns using snoc_ind with
  | h0 => exact ⟨[], rfl⟩
  | h1 ys y ih => rw [placeD_snoc]; exact ih.put _ _
theorem placeD_no (ns : List ByteArray) (x : ByteArray) (h : x ∉ ns) (z : DataW Unit) : Maps.has (placeD ns) (skey x) = false ∧ (placeD ns).atKey (skey x) z = z := by
  induction ns using snoc_ind with
  | h0 => exact ⟨rfl, Maps.atKey_of_not_has rfl z⟩
  | h1 ys y ih =>
    have hne : skey x ≠ skey y := fun e => h (by rw [skey_inj e]; simp)
    rw [placeD_snoc, Maps.has_put_other hne, Maps.atKey_put_other hne]
    exact ih fun hx => h (List.mem_append_left _ hx)
theorem placeD_yes (ns : List ByteArray) (x : ByteArray) (k : Nat) (hk : ns[k]? = some x) (hd : ∀ j, k < j → ns[j]? ≠ some x) (z : DataW Unit) : Maps.has (placeD ns) (skey x) = true ∧ (placeD ns).atKey (skey x) z = .lit (.int .i64 k) := by
  induction ns using snoc_ind with
  | h0 => simp at hk
  | h1 ys y ih =>
    rw [placeD_snoc]
    by_cases hkl : k < ys.length
    · have hne : skey x ≠ skey y := fun e => hd ys.length hkl (by rw [skey_inj e]; simp)
      rw [Maps.has_put_other hne, Maps.atKey_put_other hne]
      refine ih (by rw [List.getElem?_append_left hkl] at hk; exact hk) fun j hj hx => hd j hj ?_
      have hjl : j < ys.length := (List.getElem?_eq_some_iff.1 hx).1
      rw [List.getElem?_append_left hjl]
      exact hx
    · have hke : k = ys.length := by
        have := (List.getElem?_eq_some_iff.1 hk).1
        simp at this
        omega
      subst hke
      have hxy : x = y := by
        rw [List.getElem?_append_right (Nat.le_refl _)] at hk
        simp at hk
        exact hk.symm
      subst hxy
      exact ⟨Maps.has_put_same (placeD_map ys) (show WideAt.IsKeyLit (skey x) from trivial) _, Maps.atKey_put_same (placeD_map ys) (show WideAt.IsKeyLit (skey x) from trivial) _ _⟩

def HasMap (w : World) (m : Nat) (ns : List ByteArray) : Prop := w.ownsMap Try.prog 9 (plainElem (H := Unit) Try.prog 3) m ns.length (placeD ns)
theorem HasMap.block {w w' : World} {m : Nat} {ns : List ByteArray} (h : HasMap w m ns) (hb : w'.heap[m]? = w.heap[m]?) : HasMap w' m ns := by
  obtain ⟨es, clock, h1, h2⟩ := h
  exact ⟨es, clock, hb.trans h1, h2⟩
theorem HasMap.lt {w : World} {m : Nat} {ns : List ByteArray} (h : HasMap w m ns) : m < w.heap.size := by
  obtain ⟨es, clock, h1, h2⟩ := h
  exact (Array.getElem?_eq_some_iff.1 h1).1
theorem HasMap.keep {w w' : World} {m : Nat} {ns : List ByteArray} (h : HasMap w m ns) (hb : Below w.heap.size w w') : HasMap w' m ns := h.block (hb.block m h.lt)
theorem keyStr : Maps.Keyed Try.prog 9 := Maps.string_keyed Try.underlying9
theorem keyOf_str {x : ByteArray} (h : x.size ≤ 9223372036854775807) : keyOf Try.prog 9 (.string x) = some (skey x) := WideMaps.keyOf_string_mk Try.underlying9 (by unfold maxLen; omega)

set_option maxHeartbeats 1000000 in
theorem find_yes (p : Option Addr) (n c m : Nat) (ns : List ByteArray) (x : ByteArray) (k : Nat) (hk : ns[k]? = some x) (hd : ∀ j, k < j → ns[j]? ≠ some x) (hx : x.size ≤ 9223372036854775807) (w : World) (h : HasMap w m ns) :
    Calls Try.prog 51 #[.agg #[.slice p n c, .map (some m)], .string x] w fun e w' => e = .returned (.tuple #[.int .i64 k, .bool true]) ∧ Below w.heap.size w w' := by
  have hkey := keyOf_str hx
  obtain ⟨hh, ha⟩ := placeD_yes ns x k hk hd (.lit (.int .i64 0))
  have hown : (w.alloc (.cells #[.slice p n c, .map (some m)] 92)).ownsMap Try.prog 9 (plainElem (H := Unit) Try.prog 3) m ns.length (placeD ns) := h.keep (below_alloc _ _)
  have HH := Lib.hid hh
  have HA := Lib.hid ha
  have HO := Lib.hid hown
  clear hk hd hh ha hown
  go_enter Try.func51, Try.ntmps51
  go_wp2_with (at_lookup; refine wpList_lookup_own_ok_int _ rfl _ _ 90 rfl 9 3 .i64 keyStr Try.underlying90 Try.underlying3 (Try.zeroValue3 _) m _ _ rfl HO.out _ _ rfl hkey ?_; intro cv hat hwc)
  have hcv : cv = (k : Int) := by
    rw [HA.out] at hat
    simpa using hat.symm
  subst hcv
  rw [HH.out]
  clear hat hwc
  go_wp2_with fail
  go_ret2
  exact ⟨rfl, below_alloc _ _⟩

set_option maxHeartbeats 1000000 in
theorem find_no (p : Option Addr) (n c m : Nat) (ns : List ByteArray) (x : ByteArray) (hn : x ∉ ns) (hx : x.size ≤ 9223372036854775807) (w : World) (h : HasMap w m ns) :
    Calls Try.prog 51 #[.agg #[.slice p n c, .map (some m)], .string x] w fun e w' => e = .returned (.tuple #[.int .i64 0, .bool false]) ∧ Below w.heap.size w w' := by
  have hkey := keyOf_str hx
  obtain ⟨hh, ha⟩ := placeD_no ns x hn (.lit (.int .i64 0))
  have hown : (w.alloc (.cells #[.slice p n c, .map (some m)] 92)).ownsMap Try.prog 9 (plainElem (H := Unit) Try.prog 3) m ns.length (placeD ns) := h.keep (below_alloc _ _)
  have HH := Lib.hid hh
  have HA := Lib.hid ha
  have HO := Lib.hid hown
  clear hn hh ha hown
  go_enter Try.func51, Try.ntmps51
  go_wp2_with (at_lookup; refine wpList_lookup_own_ok_int _ rfl _ _ 90 rfl 9 3 .i64 keyStr Try.underlying90 Try.underlying3 (Try.zeroValue3 _) m _ _ rfl HO.out _ _ rfl hkey ?_; intro cv hat hwc)
  have hcv : cv = 0 := by
    rw [HA.out] at hat
    simpa using hat.symm
  subst hcv
  rw [HH.out]
  clear hat hwc
  go_wp2_with fail
  go_ret2
  exact ⟨rfl, below_alloc _ _⟩

theorem lexName_is (s : ByteArray) (b : Bool) (hb : nameB s = b) (w : World) : Calls Try.prog 65 #[.string s] w fun e w' => e = .returned (.bool b) ∧ Below w.heap.size w w' := hb ▸ lexName_any s w
theorem ArrayCheck_is (p q : Option Addr) (c f : Nat) (s d : List Int) (n : Int) (hn : arrS s d = n) (w : World) (h : Ints w p s) (h' : Ints w q d) :
    Calls Try.prog 66 #[.agg #[.slice p s.length c, .slice q d.length f]] w fun e w' => e = .returned (.int .i64 n) ∧ Below w.heap.size w w' := hn ▸ ArrayCheck_any p q c f s d w h h'

set_option maxHeartbeats 1000000 in
theorem right_is (b : BV) (r : Bool) (hr : okB b = r) (w : World) (h1 : Ints w b.sp b.s) (h2 : Ints w b.dp b.d) :
    Calls Try.prog 52 #[.agg #[.string b.name, .slice b.sp b.s.length b.sc, .slice b.dp b.d.length b.dc]] w fun e w' => e = .returned (.bool r) ∧ Below w.heap.size w w' := by
  have hb := below_alloc w (.cells #[.string b.name, .slice b.sp b.s.length b.sc, .slice b.dp b.d.length b.dc] 62)
  have c1 : (w.alloc (.cells #[.string b.name, .slice b.sp b.s.length b.sc, .slice b.dp b.d.length b.dc] 62)).cell? ⟨w.heap.size, 1, none⟩ = some (.slice b.sp b.s.length b.sc) := by simp [go_sem]
  have c2 : (w.alloc (.cells #[.string b.name, .slice b.sp b.s.length b.sc, .slice b.dp b.d.length b.dc] 62)).cell? ⟨w.heap.size, 2, none⟩ = some (.slice b.dp b.d.length b.dc) := by simp [go_sem]
  obtain ⟨W, hW⟩ : ∃ W, w.alloc (.cells #[.string b.name, .slice b.sp b.s.length b.sc, .slice b.dp b.d.length b.dc] 62) = W := ⟨_, rfl⟩
  have hlt : w.heap.size < W.heap.size := by rw [← hW]; simp
  rw [hW] at hb c1 c2
  have HW := Lib.hid hW
  clear hW
  cases hn : nameB b.name with
  | false =>
    have hrf : r = false := by rw [← hr, okB, hn]; rfl
    subst hrf
    have HN := Lib.hid hn
    clear hr hn
    go_enter Try.func52, Try.ntmps52
    go_wp2_with fail
    rw [HW.out]
    refine (lexName_is _ false HN.out _).mono ?_
    rintro e1 w1 ⟨rfl, hb1⟩
    go_wp2_with fail
    go_ret
    exact ⟨rfl, below_t hb hb1⟩
  | true =>
    have HN := Lib.hid hn
    obtain ⟨z, hz⟩ : ∃ z, arrS b.s b.d = z := ⟨_, rfl⟩
    have hzr : (z == 0) = r := by rw [← hr, okB, hn, hz]; rfl
    have HZ := Lib.hid hz
    clear hr hn hz
    go_enter Try.func52, Try.ntmps52
    go_wp2_with fail
    rw [HW.out]
    refine (lexName_is _ true HN.out _).mono ?_
    rintro e1 w1 ⟨rfl, hb1⟩
    have d1 := (hb1.cell (p := ⟨w.heap.size, 1, none⟩) hlt).trans c1
    have d2 := (hb1.cell (p := ⟨w.heap.size, 2, none⟩) hlt).trans c2
    have hbb := below_t hb hb1
    clear hb1
    go_wp2_with fail
    refine (ArrayCheck_is _ _ _ _ _ _ z HZ.out _ (h1.keep hbb) (h2.keep hbb)).mono ?_
    rintro e2 w2 ⟨rfl, hb2⟩
    go_wp2_with fail
    go_ret
    exact ⟨rfl, below_t hbb hb2⟩
end Go.Proofs.Ytolkgjbljdmadaa
