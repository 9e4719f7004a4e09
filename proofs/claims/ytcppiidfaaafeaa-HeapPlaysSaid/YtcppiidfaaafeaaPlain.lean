/- The heap as a function on lists. -/
set_option linter.unusedVariables false
set_option linter.unusedSimpArgs false
namespace Go.Proofs.Ytcppiidfaaafeaa
namespace Pl

/-- What was pushed, and when. -/
structure Th (T : Type) where
  v : T
  no : Int

variable {T : Type}
def aheadT (lt : T → T → Bool) (x y : Th T) : Bool := lt x.v y.v || (decide (x.no < y.no) && !lt y.v x.v)

/-- Places i and k exchanged. -/
def swap (l : List (Th T)) (i k : Nat) : List (Th T) :=
  match l[i]?, l[k]? with
  | some a, some b => (l.set i b).set k a
  | _, _ => l

theorem swap_length (l : List (Th T)) (i k : Nat) : (swap l i k).length = l.length := by
  unfold swap; split <;> simp

/-- The loop of Push: the thing at i goes up. -/
def up (lt : T → T → Bool) (l : List (Th T)) (i : Nat) : List (Th T) :=
  if h : 0 < i then
    match l[i]?, l[(i - 1) / 2]? with
    | some a, some b => if aheadT lt a b then up lt (swap l i ((i - 1) / 2)) ((i - 1) / 2) else l
    | _, _ => l
  else l
termination_by i

/-- The child that comes first. -/
def kid (lt : T → T → Bool) (l : List (Th T)) (k : Nat) : Nat :=
  match l[k + 1]?, l[k]? with
  | some a, some b => if aheadT lt a b then k + 1 else k
  | _, _ => k

theorem kid_cases (lt : T → T → Bool) (l : List (Th T)) (k : Nat) : kid lt l k = k ∨ (kid lt l k = k + 1 ∧ k + 1 < l.length) := by
  unfold kid
  split
  · rename_i a b h1 h2
    split
    · exact .inr ⟨rfl, (List.getElem?_eq_some_iff.1 h1).1⟩
    · exact .inl rfl
  · exact .inl rfl

/-- The loop of sink: the thing at i goes down. -/
def down (lt : T → T → Bool) (l : List (Th T)) (i : Nat) : List (Th T) :=
  if h : 2 * i + 1 < l.length then
    match l[kid lt l (2 * i + 1)]?, l[i]? with
    | some a, some b => if aheadT lt a b then down lt (swap l i (kid lt l (2 * i + 1))) (kid lt l (2 * i + 1)) else l
    | _, _ => l
  else l
termination_by l.length - i
decreasing_by
  rw [swap_length]
  rcases kid_cases lt l (2 * i + 1) with h1 | h1 <;> omega

def push (lt : T → T → Bool) (l : List (Th T)) (x : T) (no : Int) : List (Th T) := up lt (l ++ [⟨x, no⟩]) l.length

/-- What Pop leaves. -/
def rest (lt : T → T → Bool) (l : List (Th T)) : List (Th T) :=
  match l.getLast? with
  | some a => down lt ((l.set 0 a).take (l.length - 1)) 0
  | none => []

theorem swap_eq (l : List (Th T)) (i k : Nat) (hi : i < l.length) (hk : k < l.length) : swap l i k = (l.set i l[k]).set k l[i] := by
  unfold swap; rw [List.getElem?_eq_getElem hi, List.getElem?_eq_getElem hk]
theorem up_zero (lt : T → T → Bool) (l : List (Th T)) : up lt l 0 = l := by unfold up; simp
theorem up_stop (lt : T → T → Bool) (l : List (Th T)) (k : Nat) (hk : k < l.length) (h : aheadT lt l[k] (l[(k - 1) / 2]'(by omega)) = false) : up lt l k = l := by
  unfold up
  split
  · rw [List.getElem?_eq_getElem hk, List.getElem?_eq_getElem (show (k - 1) / 2 < l.length by omega)]
    simp only [h]
    rfl
  · rfl
theorem up_step (lt : T → T → Bool) (l : List (Th T)) (k : Nat) (h0 : 0 < k) (hk : k < l.length) (h : aheadT lt l[k] (l[(k - 1) / 2]'(by omega)) = true) : up lt l k = up lt (swap l k ((k - 1) / 2)) ((k - 1) / 2) := by
  rw [up, dif_pos h0, List.getElem?_eq_getElem hk, List.getElem?_eq_getElem (show (k - 1) / 2 < l.length by omega)]
  simp only [h, if_true]

end Pl
end Go.Proofs.Ytcppiidfaaafeaa
