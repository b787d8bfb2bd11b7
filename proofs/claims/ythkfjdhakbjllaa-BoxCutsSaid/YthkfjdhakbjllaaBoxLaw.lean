/- Boxes, as plain lists: all indices of a range, each once; what is left of a box without another one, and that its parts have each index at most once; that what boxes have in common does not depend on order. No condition beyond what each says. -/
import Derived.Test.YthkfjdhakbjllaaBox13
namespace Go.Proofs.Ythkfjdhakbjllaa
set_option linter.unusedVariables false
set_option linter.unusedSimpArgs false

theorem nth_ext {a b : List Int} (hl : a.length = b.length) (h : ∀ j, j < a.length → nth a j = nth b j) : a = b := by
  apply List.ext_getElem hl
  intro i h1 h2
  have := h i h1
  simpa [nth, h1, h2] using this
/-- all indices of a range -/
def addX (lo r : List Int) : List Int := mixX (· + ·) r lo
def betX (lo hi : List Int) : List (List Int) := (allX (dimsX lo hi)).map (addX lo)
theorem bet_len {lo hi : List Int} : (betX lo hi).length = (allX (dimsX lo hi)).length := List.length_map ..
theorem bet_mem {lo hi r : List Int} (hl : lo.length ≤ hi.length) : r ∈ betX lo hi ↔ InX lo hi r := by
  unfold betX
  rw [List.mem_map]
  have hd := dims_len hl
  constructor
  · rintro ⟨a, ha, rfl⟩
    obtain ⟨h1, h2⟩ := allX_mem.1 ha
    rw [hd] at h1 h2
    have e : (addX lo a).length = lo.length := by unfold addX; rw [mix_len (by omega)]; exact h1
    refine ⟨e, fun j hj => ?_⟩
    rw [e] at hj
    have h3 := h2 j hj
    rw [dims_nth hl hj] at h3
    have e2 : nth (addX lo a) j = nth a j + nth lo j := mix_nth (by omega) hj
    rw [e2]
    unfold dmI at h3
    split at h3 <;> omega
  · rintro ⟨h1, h2⟩
    have hs : (mixX (· - ·) r lo).length = r.length := mix_len (by omega)
    refine ⟨mixX (· - ·) r lo, allX_mem.2 ⟨by rw [hs, hd, h1], fun j hj => ?_⟩, ?_⟩
    · rw [hd] at hj
      have e : nth (mixX (· - ·) r lo) j = nth r j - nth lo j := mix_nth (by omega) hj
      have h3 := h2 j (by omega)
      rw [e, dims_nth hl hj]
      unfold dmI
      split <;> omega
    · have e1 : (addX lo (mixX (· - ·) r lo)).length = r.length := by unfold addX; rw [mix_len (by omega), hs]
      refine nth_ext e1 fun j hj => ?_
      rw [e1] at hj
      have e2 : nth (addX lo (mixX (· - ·) r lo)) j = nth (mixX (· - ·) r lo) j + nth lo j := mix_nth (by omega) (by omega)
      have e3 : nth (mixX (· - ·) r lo) j = nth r j - nth lo j := mix_nth hj (by omega)
      rw [e2, e3]
      omega
theorem stepA_nodup {out : List (List Int)} {d : Int} {n : Nat} (h : out.Nodup) (hl : ∀ r ∈ out, r.length = n) : (stepA out d).Nodup := by
  unfold stepA List.Nodup
  rw [List.pairwise_flatMap]
  refine ⟨fun a ha => ?_, ?_⟩
  · refine List.Pairwise.map (R := (· ≠ ·)) _ (fun x y hxy e => hxy ?_) List.nodup_range
    have := List.append_cancel_left e
    simp at this
    omega
  · refine List.Pairwise.imp_of_mem ?_ h
    intro a b ha hb hab x hx y hy e
    obtain ⟨m, -, rfl⟩ := List.mem_map.1 hx
    obtain ⟨k, -, rfl⟩ := List.mem_map.1 hy
    exact hab (List.append_inj_left e (by rw [hl a ha, hl b hb]))
theorem allX_nodup_take {s : List Int} : ∀ k, k ≤ s.length → (allX (s.take k)).Nodup
  | 0, _ => by simp [allX]
  | k + 1, hk => by
    rw [take_nth (by omega), allX_snoc]
    exact stepA_nodup (n := k) (allX_nodup_take k (by omega)) fun r hr => ((allX_take_mem k (by omega) r).1 hr).1
theorem allX_nodup {s : List Int} : (allX s).Nodup := by
  have := allX_nodup_take (s := s) s.length (Nat.le_refl _)
  rwa [List.take_length] at this
theorem bet_nodup {lo hi : List Int} (hl : lo.length ≤ hi.length) : (betX lo hi).Nodup := by
  unfold betX List.Nodup
  refine List.Pairwise.map (R := fun a b => a ≠ b ∧ a.length = lo.length ∧ b.length = lo.length) _ ?_ ?_
  · rintro a b ⟨hab, ha, hb⟩ e
    apply hab
    refine nth_ext (by omega) fun j hj => ?_
    have e2 : nth (addX lo a) j = nth a j + nth lo j := mix_nth (by omega) (by omega)
    have e3 : nth (addX lo b) j = nth b j + nth lo j := mix_nth (by omega) (by omega)
    have := congrArg (fun x => nth x j) e
    simp only [e2, e3] at this
    omega
  · refine List.Pairwise.imp_of_mem ?_ allX_nodup
    intro a b ha hb hab
    have h1 := (allX_mem.1 ha).1
    have h2 := (allX_mem.1 hb).1
    rw [dims_len hl] at h1 h2
    exact ⟨hab, h1, h2⟩
/-- the cells of a box inside another one, counted among the latter's -/
theorem bet_count {lo hi xlo xhi : List Int} (hl : lo.length ≤ hi.length) (hx : xlo.length ≤ xhi.length) (hin : ∀ r, InX xlo xhi r → InX lo hi r) : (betX lo hi).countP (inX xlo xhi) = (betX xlo xhi).length := by
  rw [List.countP_eq_length_filter]
  refine List.Perm.length_eq ((List.perm_ext_iff_of_nodup ((bet_nodup hl).sublist List.filter_sublist) (bet_nodup hx)).2 fun r => ?_)
  rw [List.mem_filter, bet_mem hl, bet_mem hx, inX, decide_eq_true_iff]
  exact ⟨fun h => h.2, fun h => ⟨hin r h, h⟩⟩

/-- a box -/
abbrev Bx := List Int × List Int
/-- what is left at one side of an axis -/
def cutX (alo ahi clo chi : List Int) (k : Nat) (side : Bool) : Bx :=
  (clo.take k ++ (if side then nth chi k else nth alo k) :: alo.drop (k + 1), chi.take k ++ (if side then nth ahi k else nth clo k) :: ahi.drop (k + 1))
def fullB (b : Bx) : Bool := decide (FullX b.1 b.2)
def cutsX (alo ahi clo chi : List Int) (n : Nat) : List Bx := (List.range n).flatMap fun k => [cutX alo ahi clo chi k false, cutX alo ahi clo chi k true].filter fullB
def minusX (alo ahi blo bhi : List Int) : List Bx :=
  if ¬ FullX alo ahi then [] else if Meets alo ahi blo bhi then cutsX alo ahi (meetLo alo blo) (meetHi ahi bhi) alo.length else [(alo, ahi)]
theorem cut_nth {c a : List Int} {k : Nat} {x : Int} (hl : c.length = a.length) (hk : k < a.length) (j : Nat) (hj : j < a.length) :
    nth (c.take k ++ x :: a.drop (k + 1)) j = if j < k then nth c j else if j = k then x else nth a j := by
  have hlk : (c.take k).length = k := by rw [List.length_take]; omega
  by_cases h1 : j < k
  · rw [if_pos h1, nth_app_lt (by omega)]
    unfold nth
    rw [List.getD_eq_getElem?_getD, List.getD_eq_getElem?_getD, List.getElem?_take, if_pos h1]
  · rw [if_neg h1]
    unfold nth
    rw [List.getD_eq_getElem?_getD, List.getElem?_append_right (by omega), hlk]
    by_cases h2 : j = k
    · subst h2
      simp
    · rw [if_neg h2, show j - k = (j - k - 1) + 1 by omega, List.getElem?_cons_succ, List.getElem?_drop, List.getD_eq_getElem?_getD, show k + 1 + (j - k - 1) = j by omega]
theorem cut_len {c a : List Int} {k : Nat} {x : Int} (hl : c.length = a.length) (hk : k < a.length) : (c.take k ++ x :: a.drop (k + 1)).length = a.length := by
  simp
  omega
/-- which indices of the box are in a part -/
theorem cut_in {alo ahi clo chi r : List Int} {k : Nat} (side : Bool) (h1 : clo.length = alo.length) (h2 : chi.length = ahi.length) (h3 : alo.length = ahi.length) (hk : k < alo.length)
    (hc : ∀ j, j < alo.length → nth alo j ≤ nth clo j ∧ nth clo j < nth chi j ∧ nth chi j ≤ nth ahi j) (hr : r.length = alo.length) :
    InX (cutX alo ahi clo chi k side).1 (cutX alo ahi clo chi k side).2 r ↔ (∀ j, j < k → nth clo j ≤ nth r j ∧ nth r j < nth chi j) ∧ (if side then nth chi k ≤ nth r k ∧ nth r k < nth ahi k else nth alo k ≤ nth r k ∧ nth r k < nth clo k) ∧ (∀ j, k < j → j < alo.length → nth alo j ≤ nth r j ∧ nth r j < nth ahi j) := by
  unfold InX cutX
  simp only
  rw [cut_len h1 hk]
  constructor
  · rintro ⟨-, h⟩
    refine ⟨fun j hj => ?_, ?_, fun j hj hja => ?_⟩
    · have := h j (by omega)
      rw [cut_nth h1 hk j (by omega), cut_nth h2 (by omega) j (by omega), if_pos hj, if_pos hj] at this
      exact this
    · have := h k (by omega)
      rw [cut_nth h1 hk k (by omega), cut_nth h2 (by omega) k (by omega), if_neg (Nat.lt_irrefl k), if_neg (Nat.lt_irrefl k), if_pos rfl, if_pos rfl] at this
      cases side <;> simpa using this
    · have := h j (by omega)
      rw [cut_nth h1 hk j (by omega), cut_nth h2 (by omega) j (by omega), if_neg (by omega), if_neg (by omega), if_neg (by omega), if_neg (by omega)] at this
      exact this
  · rintro ⟨a1, a2, a3⟩
    refine ⟨hr, fun j hj => ?_⟩
    rw [cut_nth h1 hk j (by omega), cut_nth h2 (by omega) j (by omega)]
    by_cases g1 : j < k
    · rw [if_pos g1, if_pos g1]
      exact a1 j g1
    · by_cases g2 : j = k
      · subst g2
        rw [if_neg g1, if_neg g1, if_pos rfl, if_pos rfl]
        cases side <;> simpa using a2
      · rw [if_neg g1, if_neg g1, if_neg g2, if_neg g2]
        exact a3 j (by omega) (by omega)
def inB (r : List Int) (b : Bx) : Bool := inX b.1 b.2 r
/-- an index is in at most one of the parts, and just where an axis is beyond the common range -/
theorem cuts_count {alo ahi clo chi r : List Int} (h1 : clo.length = alo.length) (h2 : chi.length = ahi.length) (h3 : alo.length = ahi.length)
    (hc : ∀ j, j < alo.length → nth alo j ≤ nth clo j ∧ nth clo j < nth chi j ∧ nth chi j ≤ nth ahi j) (hr : InX alo ahi r) : ∀ n, n ≤ alo.length →
    (cutsX alo ahi clo chi n).countP (inB r) = if ∀ j, j < n → nth clo j ≤ nth r j ∧ nth r j < nth chi j then 0 else 1
  | 0, _ => by simp [cutsX]
  | n + 1, hn => by
    have ih := cuts_count h1 h2 h3 hc hr n (by omega)
    unfold cutsX at ih ⊢
    rw [List.range_succ, List.flatMap_append, List.countP_append, ih]
    simp only [List.flatMap_cons, List.flatMap_nil, List.append_nil]
    have hf : ∀ side, inB r (cutX alo ahi clo chi n side) = true → fullB (cutX alo ahi clo chi n side) = true := fun side hs => by
      unfold inB inX at hs
      unfold fullB
      rw [decide_eq_true_iff] at hs ⊢
      intro j hj
      have := hs.2 j (by rw [hs.1]; exact hj)
      omega
    have hcf : ∀ l : List Bx, (∀ b ∈ l, inB r b = true → fullB b = true) → (l.filter fullB).countP (inB r) = l.countP (inB r) := fun l hl => by
      rw [List.countP_filter]
      refine List.countP_congr fun b hb => ?_
      have := hl b hb
      cases h : inB r b <;> simp_all
    rw [hcf _ (by
      intro b hb
      simp only [List.mem_cons, List.not_mem_nil, or_false] at hb
      rcases hb with rfl | rfl
      · exact hf false
      · exact hf true)]
    have e0 := cut_in (r := r) (k := n) false h1 h2 h3 (by omega) hc hr.1
    have e1 := cut_in (r := r) (k := n) true h1 h2 h3 (by omega) hc hr.1
    have hra := fun j (hj : j < alo.length) => hr.2 j (by rw [hr.1]; exact hj)
    have hcn := hc n (by omega)
    have hrn := hra n (by omega)
    simp only [Bool.false_eq_true, if_false, if_true] at e0 e1
    by_cases hb : ∀ j, j < n → nth clo j ≤ nth r j ∧ nth r j < nth chi j
    · rw [if_pos hb]
      by_cases g1 : nth r n < nth clo n
      · have i0 : inB r (cutX alo ahi clo chi n false) = true := decide_eq_true (e0.2 ⟨hb, ⟨hrn.1, g1⟩, fun j _ hj => hra j hj⟩)
        have i1 : inB r (cutX alo ahi clo chi n true) = false := decide_eq_false fun h => by have := (e1.1 h).2.1; omega
        rw [if_neg (fun h => by have := h n (by omega); omega)]
        simp [i0, i1]
      · by_cases g2 : nth r n < nth chi n
        · have i0 : inB r (cutX alo ahi clo chi n false) = false := decide_eq_false fun h => by have := (e0.1 h).2.1; omega
          have i1 : inB r (cutX alo ahi clo chi n true) = false := decide_eq_false fun h => by have := (e1.1 h).2.1; omega
          rw [if_pos (fun j hj => by
            by_cases hjn : j = n
            · subst hjn
              omega
            · exact hb j (by omega))]
          simp [i0, i1]
        · have i0 : inB r (cutX alo ahi clo chi n false) = false := decide_eq_false fun h => by have := (e0.1 h).2.1; omega
          have i1 : inB r (cutX alo ahi clo chi n true) = true := decide_eq_true (e1.2 ⟨hb, ⟨by omega, hrn.2⟩, fun j _ hj => hra j hj⟩)
          rw [if_neg (fun h => by have := h n (by omega); omega)]
          simp [i0, i1]
    · rw [if_neg hb, if_neg (fun h => hb fun j hj => h j (by omega))]
      have i0 : inB r (cutX alo ahi clo chi n false) = false := decide_eq_false fun h => hb (e0.1 h).1
      have i1 : inB r (cutX alo ahi clo chi n true) = false := decide_eq_false fun h => hb (e1.1 h).1
      simp [i0, i1]
theorem meetLo_nth {alo blo : List Int} (h : alo.length = blo.length) {j : Nat} (hj : j < alo.length) : nth (meetLo alo blo) j = mxI (nth alo j) (nth blo j) := mix_nth hj (by omega)
theorem meetHi_nth {ahi bhi : List Int} (h : ahi.length = bhi.length) {j : Nat} (hj : j < ahi.length) : nth (meetHi ahi bhi) j = mnI (nth ahi j) (nth bhi j) := mix_nth hj (by omega)
theorem meetLo_len {alo blo : List Int} (h : alo.length = blo.length) : (meetLo alo blo).length = alo.length := mix_len (by omega)
theorem meetHi_len {ahi bhi : List Int} (h : ahi.length = bhi.length) : (meetHi ahi bhi).length = ahi.length := mix_len (by omega)
theorem mxI_le {x y z : Int} : mxI x y ≤ z ↔ x ≤ z ∧ y ≤ z := by unfold mxI; split <;> omega
theorem lt_mnI {x y z : Int} : z < mnI x y ↔ z < x ∧ z < y := by unfold mnI; split <;> omega
theorem cuts_range {alo ahi blo bhi : List Int} (ha : alo.length = ahi.length) (hb : blo.length = bhi.length) (hm : Meets alo ahi blo bhi) :
    ∀ j, j < alo.length → nth alo j ≤ nth (meetLo alo blo) j ∧ nth (meetLo alo blo) j < nth (meetHi ahi bhi) j ∧ nth (meetHi ahi bhi) j ≤ nth ahi j := fun j hj => by
  have h := hm.2 j (by rw [meetLo_len hm.1]; exact hj)
  have h1 := hm.1
  refine ⟨?_, h, ?_⟩
  · rw [meetLo_nth h1 hj]
    unfold mxI
    split <;> omega
  · rw [meetHi_nth (by omega) (by omega)]
    unfold mnI
    split <;> omega
theorem minus_once {alo ahi blo bhi r : List Int} (ha : alo.length = ahi.length) (hb : blo.length = bhi.length) (hr : r ∈ betX alo ahi) :
    (minusX alo ahi blo bhi).countP (inB r) = if inX blo bhi r then 0 else 1 := by
  have hi := (bet_mem (by omega)).1 hr
  have hf : FullX alo ahi := fun j hj => by
    have := hi.2 j (by rw [hi.1]; exact hj)
    omega
  unfold minusX
  rw [if_neg (not_not_intro hf)]
  by_cases hm : Meets alo ahi blo bhi
  · have h1 := hm.1
    rw [if_pos hm, cuts_count (meetLo_len h1) (meetHi_len (by omega)) ha (cuts_range ha hb hm) hi alo.length (Nat.le_refl _)]
    have e : (∀ j, j < alo.length → nth (meetLo alo blo) j ≤ nth r j ∧ nth r j < nth (meetHi ahi bhi) j) ↔ inX blo bhi r = true := by
      unfold inX
      rw [decide_eq_true_iff]
      constructor
      · intro h
        refine ⟨by rw [hi.1, h1], fun j hj => ?_⟩
        have hj' : j < alo.length := by rw [← hi.1]; exact hj
        have h2 := h j hj'
        rw [meetLo_nth h1 hj', meetHi_nth (by omega) (by omega), mxI_le, lt_mnI] at h2
        exact ⟨h2.1.2, h2.2.2⟩
      · intro h j hj
        rw [meetLo_nth h1 hj, meetHi_nth (by omega) (by omega), mxI_le, lt_mnI]
        have h2 := hi.2 j (by rw [hi.1]; exact hj)
        have h3 := h.2 j (by rw [hi.1]; exact hj)
        exact ⟨⟨h2.1, h3.1⟩, h2.2, h3.2⟩
    by_cases hc : inX blo bhi r = true
    · rw [if_pos (e.2 hc), if_pos hc]
    · rw [if_neg (fun h => hc (e.1 h)), if_neg hc]
  · rw [if_neg hm]
    have h1 : inB r (alo, ahi) = true := decide_eq_true hi
    have h2 : inX blo bhi r = false := decide_eq_false fun h => hm ⟨by have := h.1; have := hi.1; omega, fun j hj => by
      have hl : alo.length = blo.length := by have := h.1; have := hi.1; omega
      rw [meetLo_len hl] at hj
      have h3 := hi.2 j (by rw [hi.1]; exact hj)
      have h4 := h.2 j (by rw [hi.1]; exact hj)
      rw [meetLo_nth hl hj, meetHi_nth (by omega) (by omega)]
      unfold mxI mnI
      split <;> split <;> omega⟩
    simp [h1, h2]
theorem cuts_mem {alo ahi clo chi : List Int} {n : Nat} {x : Bx} (h : x ∈ cutsX alo ahi clo chi n) : ∃ k side, k < n ∧ x = cutX alo ahi clo chi k side := by
  unfold cutsX at h
  rw [List.mem_flatMap] at h
  obtain ⟨k, hk, hx⟩ := h
  have hx := (List.mem_filter.1 hx).1
  simp only [List.mem_cons, List.not_mem_nil, or_false] at hx
  rcases hx with rfl | rfl
  · exact ⟨k, false, List.mem_range.1 hk, rfl⟩
  · exact ⟨k, true, List.mem_range.1 hk, rfl⟩
/-- each part has its lists' lengths, and lies in the box -/
theorem minus_part {alo ahi blo bhi : List Int} (ha : alo.length = ahi.length) (hb : blo.length = bhi.length) {x : Bx} (hx : x ∈ minusX alo ahi blo bhi) :
    x.1.length = alo.length ∧ x.2.length = ahi.length ∧ ∀ r, InX x.1 x.2 r → InX alo ahi r := by
  unfold minusX at hx
  split at hx
  · cases hx
  · split at hx
    · next hf hm =>
      have h1 := hm.1
      obtain ⟨k, side, hk, rfl⟩ := cuts_mem hx
      have e1 : (cutX alo ahi (meetLo alo blo) (meetHi ahi bhi) k side).1.length = alo.length := cut_len (meetLo_len h1) hk
      have e2 : (cutX alo ahi (meetLo alo blo) (meetHi ahi bhi) k side).2.length = ahi.length := cut_len (meetHi_len (by omega)) (by omega)
      refine ⟨e1, e2, fun r hr => ?_⟩
      have hrl : r.length = alo.length := by rw [hr.1, e1]
      have hc := cuts_range ha hb hm
      obtain ⟨a1, a2, a3⟩ := (cut_in side (meetLo_len h1) (meetHi_len (by omega)) ha hk hc hrl).1 hr
      refine ⟨hrl, fun j hj => ?_⟩
      have hcj := hc j (by omega)
      by_cases g1 : j < k
      · have := a1 j g1
        omega
      · by_cases g2 : j = k
        · subst g2
          cases side
          · simp only [Bool.false_eq_true, if_false] at a2
            omega
          · simp only [if_true] at a2
            omega
        · exact a3 j (by omega) (by omega)
    · rw [List.mem_singleton] at hx
      subst hx
      exact ⟨rfl, rfl, fun r h => h⟩
theorem count_swap {α β : Type} (p : α → β → Bool) (l : List α) (m : List β) : (l.map fun x => m.countP (p x)).sum = (m.map fun y => l.countP fun x => p x y).sum := by
  induction l with
  | nil =>
    induction m with
    | nil => rfl
    | cons y m ih => rw [List.map_cons, List.sum_cons, ← ih]; simp
  | cons x l ih =>
    rw [List.map_cons, List.sum_cons, ih]
    have : (m.map fun y => (x :: l).countP fun x => p x y).sum = (m.map fun y => (if p x y then 1 else 0) + l.countP fun x => p x y).sum := by
      congr 1
      refine List.map_congr_left fun y _ => ?_
      rw [List.countP_cons]
      omega
    rw [this]
    clear this ih
    induction m with
    | nil => simp
    | cons y m ih2 =>
      simp only [List.map_cons, List.sum_cons, List.countP_cons]
      omega
/-- all parts' cells are as many as the hits of the box's cells -/
theorem minus_sum {alo ahi blo bhi : List Int} (ha : alo.length = ahi.length) (hb : blo.length = bhi.length) :
    ((minusX alo ahi blo bhi).map fun x => (betX x.1 x.2).length).sum = ((betX alo ahi).map fun r => (minusX alo ahi blo bhi).countP (inB r)).sum := by
  rw [← count_swap (fun x r => inB r x)]
  congr 1
  refine List.map_congr_left fun x hx => ?_
  obtain ⟨h1, h2, h3⟩ := minus_part ha hb hx
  exact (bet_count (by omega) (by omega) h3).symm

theorem meetLo_comm {alo blo : List Int} (h : alo.length = blo.length) : meetLo alo blo = meetLo blo alo :=
  nth_ext (by rw [meetLo_len h, meetLo_len h.symm, h]) fun j hj => by
    rw [meetLo_len h] at hj
    rw [meetLo_nth h hj, meetLo_nth h.symm (by omega)]
    unfold mxI
    split <;> split <;> omega
theorem meetHi_comm {alo blo : List Int} (h : alo.length = blo.length) : meetHi alo blo = meetHi blo alo :=
  nth_ext (by rw [meetHi_len h, meetHi_len h.symm, h]) fun j hj => by
    rw [meetHi_len h] at hj
    rw [meetHi_nth h hj, meetHi_nth h.symm (by omega)]
    unfold mnI
    split <;> split <;> omega
theorem meetLo_self {a : List Int} : meetLo a a = a := nth_ext (meetLo_len rfl) fun j hj => by
  rw [meetLo_len rfl] at hj
  rw [meetLo_nth rfl hj]
  simp [mxI]
theorem meetHi_self {a : List Int} : meetHi a a = a := nth_ext (meetHi_len rfl) fun j hj => by
  rw [meetHi_len rfl] at hj
  rw [meetHi_nth rfl hj]
  simp [mnI]
theorem meetLo_assoc {a b c : List Int} (h : a.length = b.length) (k : b.length = c.length) : meetLo (meetLo a b) c = meetLo a (meetLo b c) := by
  have e1 := meetLo_len h
  have e2 := meetLo_len k
  refine nth_ext (by rw [meetLo_len (alo := meetLo a b) (by omega), e1, meetLo_len (alo := a) (by omega)]) fun j hj => ?_
  rw [meetLo_len (by omega), e1] at hj
  rw [meetLo_nth (by omega) (by omega), meetLo_nth h hj, meetLo_nth (by omega) hj, meetLo_nth k (by omega)]
  unfold mxI
  repeat' split
  all_goals omega
theorem meetHi_assoc {a b c : List Int} (h : a.length = b.length) (k : b.length = c.length) : meetHi (meetHi a b) c = meetHi a (meetHi b c) := by
  have e1 := meetHi_len h
  have e2 := meetHi_len k
  refine nth_ext (by rw [meetHi_len (ahi := meetHi a b) (by omega), e1, meetHi_len (ahi := a) (by omega)]) fun j hj => ?_
  rw [meetHi_len (by omega), e1] at hj
  rw [meetHi_nth (by omega) (by omega), meetHi_nth h hj, meetHi_nth (by omega) hj, meetHi_nth k (by omega)]
  unfold mnI
  repeat' split
  all_goals omega
theorem meets_comm {alo ahi blo bhi : List Int} (ha : alo.length = ahi.length) (hb : blo.length = bhi.length) : Meets alo ahi blo bhi ↔ Meets blo bhi alo ahi := by
  unfold Meets
  constructor
  · rintro ⟨h, k⟩
    exact ⟨h.symm, by rw [meetLo_comm h.symm, meetHi_comm (by omega)]; exact k⟩
  · rintro ⟨h, k⟩
    exact ⟨h.symm, by rw [meetLo_comm h.symm, meetHi_comm (by omega)]; exact k⟩
theorem meets_self {alo ahi : List Int} : Meets alo ahi alo ahi ↔ FullX alo ahi := by
  unfold Meets
  rw [meetLo_self, meetHi_self]
  exact ⟨fun h => h.2, fun h => ⟨rfl, h⟩⟩
theorem meets_assoc {alo ahi blo bhi clo chi : List Int} (ha : alo.length = ahi.length) (hb : blo.length = bhi.length) (hc : clo.length = chi.length) (h1 : alo.length = blo.length) (h2 : blo.length = clo.length) :
    Meets (meetLo alo blo) (meetHi ahi bhi) clo chi ↔ Meets alo ahi (meetLo blo clo) (meetHi bhi chi) := by
  unfold Meets
  rw [meetLo_assoc h1 h2, meetHi_assoc (by omega) (by omega), meetLo_len h1, meetLo_len h2]
  exact ⟨fun h => ⟨h1, h.2⟩, fun h => ⟨by omega, h.2⟩⟩
end Go.Proofs.Ythkfjdhakbjllaa
