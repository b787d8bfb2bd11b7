/- The fixed trees of awake. No condition beyond what each says. -/
import Derived.Test.YtjehgcmcphgofaaTr30
namespace Go.Proofs.Ytjehgcmcphgofaa
open Go.RowKit Go.Shelf
set_option linter.unusedVariables false
set_option linter.unusedSimpArgs false

def xT : TV := .mk ⟨2, 0, -1, ⟨#[120]⟩, none, 0, [], none, 0, 0⟩ fun _ => .nil
def yT : TV := .mk ⟨2, 0, -1, ⟨#[121]⟩, none, 0, [], none, 0, 0⟩ fun _ => .nil
def zT : TV := .mk ⟨0, 0, 0, ⟨#[]⟩, none, 0, [], none, 0, 0⟩ fun _ => .nil
def twoT (a : Nat) : TV := .mk ⟨1, 0, -1, ⟨#[]⟩, some ⟨a, 0, none⟩, 1, [2], none, 0, 0⟩ fun _ => .nil
def catT (b : Nat) : TV := .mk ⟨4, 6, -1, ⟨#[]⟩, none, 0, [], some ⟨b, 0, none⟩, 2, 2⟩ fun i => if i = 0 then xT else yT
def takeT (a b c : Nat) : TV := .mk ⟨4, 1, -1, ⟨#[]⟩, none, 0, [], some ⟨c, 0, none⟩, 2, 2⟩ fun i => if i = 0 then twoT a else catT b
def badT (a b c : Nat) : TV := .mk ⟨4, 1, -1, ⟨#[]⟩, none, 0, [], some ⟨c, 0, none⟩, 2, 2⟩ fun i => if i = 0 then catT b else twoT a
theorem takeT_steps (a b c : Nat) : stepsT (takeT a b c) = [yT, xT, catT b, twoT a, takeT a b c] := rfl
theorem takeT_right (a b c : Nat) : rightT (takeT a b c) = true := by kernel_rfl
theorem badT_right (a b c : Nat) : rightT (badT a b c) = false := by kernel_rfl
theorem zT_right : rightT zT = false := by kernel_rfl
theorem takeT_size (a b c : Nat) : sizeT (takeT a b c) = 5 := rfl
theorem takeT_depth (a b c : Nat) : depthT (takeT a b c) = 3 := rfl
theorem takeT_nums (a b c : Nat) : numsT (takeT a b c) = 1 := rfl
theorem takeT_cat (a b c : Nat) : sameT (takeT a b c) (catT b) = false := by kernel_rfl
theorem takeT_names (a b c : Nat) : namesL (stepsT (takeT a b c)) = [⟨#[121]⟩, ⟨#[120]⟩] := by kernel_rfl
/-- the five rounds -/
theorem five_rounds {α : Type} {pre : List α} {x a b c d e : α} (h : pre ++ [x] = [a, b, c, d, e].take (pre.length + 1)) :
    (pre.length = 0 ∧ x = a) ∨ (pre.length = 1 ∧ x = b) ∨ (pre.length = 2 ∧ x = c) ∨ (pre.length = 3 ∧ x = d) ∨ (pre.length = 4 ∧ x = e) := by
  match pre, h with
  | [], h => simp at h; simp [h]
  | [_], h => simp at h; simp [h]
  | [_, _], h => simp at h; simp [h]
  | [_, _, _], h => simp at h; simp [h]
  | [_, _, _, _], h => simp at h; simp [h]
  | _ :: _ :: _ :: _ :: _ :: r, h =>
    have := congrArg List.length h
    simp at this
theorem name_any (s : ByteArray) (w : World) : Calls Try.prog 26 #[.string s] w fun e w' => e = .returned (.agg #[.int .i64 2, .int .i64 0, .int .i64 (-1), .string s, .slice none 0 0, .slice none 0 0]) ∧ Below w.heap.size w w' := by
  go_enter Try.func26, Try.ntmps26
  go_wp2_with fail
  refine bodyPost_ret (v := .agg #[.int .i64 2, .int .i64 0, .int .i64 (-1), .string s, .slice none 0 0, .slice none 0 0]) ?_ rfl ⟨rfl, below_alloc _ _⟩
  simp [results, Try.f26, go_sem]
theorem und_seq : Try.prog.underlying 33 = some (.func #[28] #[] false) := by kernel_rfl
theorem run_eql_seq (w : World) (fn : Fn) (fs lb : Array Value) : (binOp .eql 33 (.func fn fs lb) .nilFunc).run Try.prog w = .ok (.bool false) w := by
  have h := und_seq
  have h1 : ∀ d : Nat, (Op.equalIn (d + 1) 33 (.func fn fs lb) .nilFunc).run Try.prog w = .ok false w := fun d => by
    simp [Op.equalIn, run_underlying h]
  simp only [binOp]
  simp [Op.equal, Op.maxDepth, h1 9999]
end Go.Proofs.Ytjehgcmcphgofaa
