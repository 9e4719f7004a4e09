/- The heap of one type: what it is in memory. -/
import Derived.Test.YtcppiidfaaafeaaBase
import Derived.Test.YtcppiidfaaafeaaPlain
set_option linter.unusedVariables false
set_option linter.unusedSimpArgs false
namespace Go.Proofs.Ytcppiidfaaafeaa
open Go.RowKit
namespace HT
open Pl
structure K where
  key : Int
  name : Int
abbrev vt (t : K) : Value := .agg #[.int .i64 t.key, .int .i64 t.name]
def ct (x : Th K) : List Value := [.int .i64 x.v.key, .int .i64 x.v.name, .int .u64 x.no]
def flat (l : List (Th K)) : List Value := l.flatMap ct
theorem flat_append (l m : List (Th K)) : flat (l ++ m) = flat l ++ flat m := by simp [flat]
theorem flat_length (l : List (Th K)) : (flat l).length = l.length * 3 := by
  induction l with
  | nil => rfl
  | cons a l ih => simp only [flat, List.flatMap_cons, List.length_append, ct, List.length_cons, List.length_nil] at ih ⊢; omega
theorem flat_get (l : List (Th K)) (i j : Nat) (hi : i < l.length) (hj : j < 3) : (flat l)[i * 3 + j]? = (ct l[i])[j]? := by
  induction l generalizing i with
  | nil => simp at hi
  | cons a l ih =>
    have e : flat (a :: l) = ct a ++ flat l := rfl
    cases i with
    | zero => rw [e, Nat.zero_mul, Nat.zero_add, List.getElem?_append_left (by simp [ct]; omega)]; rfl
    | succ i =>
      rw [e, List.getElem?_append_right (by simp [ct]; omega)]
      have : (i + 1) * 3 + j - (ct a).length = i * 3 + j := by simp [ct]; omega
      rw [this, ih i (by simpa using hi)]
      rfl
theorem flat_take (l : List (Th K)) (n : Nat) : flat (l.take n) = (flat l).take (n * 3) := by
  rcases Nat.lt_or_ge n l.length with h | h
  · have e : flat l = flat (l.take n) ++ flat (l.drop n) := by rw [← flat_append, List.take_append_drop]
    rw [e]; exact (List.take_left' (by rw [flat_length, List.length_take]; omega)).symm
  · rw [List.take_of_length_le h, List.take_of_length_le (by rw [flat_length]; exact Nat.mul_le_mul_right _ h)]
/-- One thing stored over another: cell by cell. -/
theorem flat_set (l : List (Th K)) (i : Nat) (x : Th K) : ((((flat l).set (i * 3) (.int .i64 x.v.key)).set (i * 3 + 1) (.int .i64 x.v.name)).set (i * 3 + 2) (.int .u64 x.no)) = flat (l.set i x) := by
  induction l generalizing i with
  | nil => simp [flat]
  | cons a l ih =>
    cases i with
    | zero => simp [flat, ct]
    | succ i =>
      have e : flat (a :: l) = ct a ++ flat l := rfl
      have e2 : flat ((a :: l).set (i + 1) x) = ct a ++ flat (l.set i x) := rfl
      have hc : (ct a).length = 3 := rfl
      rw [e2, ← ih i, e]
      rw [show (i + 1) * 3 = 3 + i * 3 by omega, show 3 + i * 3 + 1 = 3 + (i * 3 + 1) by omega, show 3 + i * 3 + 2 = 3 + (i * 3 + 2) by omega]
      simp only [Nat.add_assoc, ← hc, List.set_append_right _ _ (Nat.le_add_right _ _), Nat.add_sub_cancel_left]
/-- The function that orders. -/
structure First (f : Nat) (lt : K → K → Bool) : Prop where
  call : ∀ args W, Sem.run Try.prog (callFunc f args) W = .ok (.enter f args) W
  does : ∀ (x y : K) (W : World), Calls Try.prog f #[vt x, vt y] W fun e w' => e = .returned (.bool (lt x y)) ∧ Below W.heap.size W w'
/-- A heap at block hb. -/
structure Heap (B : Nat) (w : World) (hb f : Nat) (v : Value) (l : List (Th K)) (nx : Int) : Prop where
  base : B ≤ hb
  blk : w.heap[hb]? = some (.cells #[.func (.func f) #[] #[], v, .int .u64 nx] 66 (0, 0))
  own : w.ownsRow B 69 3 v l.length (flat l)
theorem Heap.below {B : Nat} {w w' : World} {hb f : Nat} {v : Value} {l : List (Th K)} {nx : Int} (h : Heap B w hb f v l nx) (hw : Below w.heap.size w w') : Heap B w' hb f v l nx :=
  ⟨h.base, blk_below h.blk hw, own_below h.own hw⟩
theorem Heap.len {B : Nat} {w : World} {hb f n c : Nat} {a : Option Addr} {l : List (Th K)} {nx : Int} (h : Heap B w hb f (.slice a n c) l nx) : n = l.length := by
  rcases h.own.2 with ⟨h1, h2⟩ | ⟨_, _, _, h1, _⟩
  · injection h1 with _ h1; omega
  · injection h1
/-- The cells of one thing. -/
theorem Heap.at_ {B : Nat} {w : World} {hb f g n c : Nat} {l : List (Th K)} {nx : Int} (h : Heap B w hb f (.slice (some ⟨g, 0, none⟩) n c) l nx) (i : Nat) (hi : i < l.length) :
    w.cell? ⟨g, i * 3, none⟩ = some (.int .i64 l[i].v.key) ∧ w.cell? ⟨g, i * 3 + 1, none⟩ = some (.int .i64 l[i].v.name) ∧ w.cell? ⟨g, i * 3 + 2, none⟩ = some (.int .u64 l[i].no) := by
  have ho := h.own
  have hn := h.len
  subst hn
  refine ⟨?_, ?_, ?_⟩
  · rw [ho.cellAt _ (by omega)]; exact flat_get l i 0 hi (by omega)
  · rw [ho.cellAt _ (by omega)]; exact flat_get l i 1 hi (by omega)
  · rw [ho.cellAt _ (by omega)]; exact flat_get l i 2 hi (by omega)
theorem Heap.form {B : Nat} {w : World} {hb f : Nat} {v : Value} {l : List (Th K)} {nx : Int} (h : Heap B w hb f v l nx) (hl : 0 < l.length) :
    ∃ g c, v = .slice (some ⟨g, 0, none⟩) l.length c ∧ B ≤ g ∧ g < w.heap.size ∧ g ≠ hb ∧ l.length ≤ c := by
  rcases h.own.2 with ⟨_, h1⟩ | ⟨g, cap, cur, hv, hB, hh, hc, _⟩
  · omega
  · exact ⟨g, cap, hv, hB, blk_lt hh, blk_ne hh h.blk (by decide), hc⟩
theorem Heap.shape {B : Nat} {w : World} {hb f : Nat} {v : Value} {l : List (Th K)} {nx : Int} (h : Heap B w hb f v l nx) :
    ∃ a c, v = .slice a l.length c := by
  rcases h.own.2 with ⟨hv, h1⟩ | ⟨g, cap, cur, hv, _⟩
  · exact ⟨none, 0, by rw [hv, h1]⟩
  · exact ⟨_, cap, hv⟩
/-- One thing stored over another. -/
theorem own_set {B : Nat} {w : World} {g n c : Nat} {l : List (Th K)} (h : w.ownsRow B 69 3 (.slice (some ⟨g, 0, none⟩) n c) n (flat l)) (i : Nat) (x : Th K) :
    ((((w.setCell ⟨g, i * 3, none⟩ (.int .i64 x.v.key)).setCell ⟨g, i * 3 + 1, none⟩ (.int .i64 x.v.name)).setCell ⟨g, i * 3 + 2, none⟩ (.int .u64 x.no))).ownsRow B 69 3 (.slice (some ⟨g, 0, none⟩) n c) n (flat (l.set i x)) := by
  rw [← flat_set]
  exact (((h.stored (i * 3) _).1.stored (i * 3 + 1) _).1.stored (i * 3 + 2) _).1

end HT
end Go.Proofs.Ytcppiidfaaafeaa
