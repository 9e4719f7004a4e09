/- The steps of the two loops of a heap, on lists. -/
import Derived.Test.YtcppiidfaaafeaaPlain
set_option linter.unusedVariables false
set_option linter.unusedSimpArgs false
namespace Go.Proofs.Ytcppiidfaaafeaa
namespace Pl
variable {T : Type}
theorem up_stop' (lt : T → T → Bool) (l : List (Th T)) (k j : Nat) (hj : j = (k - 1) / 2) (hk : k < l.length) (hjl : j < l.length) (h : aheadT lt l[k] l[j] = false) : up lt l k = l := by
  subst hj; exact up_stop lt l k hk h
theorem up_step' (lt : T → T → Bool) (l : List (Th T)) (k j : Nat) (hj : j = (k - 1) / 2) (h0 : 0 < k) (hk : k < l.length) (hjl : j < l.length) (h : aheadT lt l[k] l[j] = true) : up lt l k = up lt ((l.set k l[j]).set j l[k]) j := by
  subst hj; rw [up_step lt l k h0 hk h, swap_eq l k _ hk hjl]
theorem kid_no (lt : T → T → Bool) (l : List (Th T)) (k : Nat) (h : ¬ k + 1 < l.length) : kid lt l k = k := by
  unfold kid; rw [List.getElem?_eq_none (by omega : l.length ≤ k + 1)]
theorem kid_yes (lt : T → T → Bool) (l : List (Th T)) (k : Nat) (h : k + 1 < l.length) : kid lt l k = if aheadT lt l[k + 1] l[k] then k + 1 else k := by
  unfold kid; rw [List.getElem?_eq_getElem h, List.getElem?_eq_getElem (show k < l.length by omega)]
theorem down_end (lt : T → T → Bool) (l : List (Th T)) (i : Nat) (h : ¬ 2 * i + 1 < l.length) : down lt l i = l := by
  unfold down; rw [dif_neg h]
theorem down_stop' (lt : T → T → Bool) (l : List (Th T)) (i k : Nat) (hk : kid lt l (2 * i + 1) = k) (hkl : k < l.length) (hil : i < l.length) (h : aheadT lt l[k] l[i] = false) : down lt l i = l := by
  subst hk
  unfold down
  split
  · rw [List.getElem?_eq_getElem hkl, List.getElem?_eq_getElem hil]
    simp only [h]
    rfl
  · rfl
theorem down_step' (lt : T → T → Bool) (l : List (Th T)) (i k : Nat) (hk : kid lt l (2 * i + 1) = k) (h0 : 2 * i + 1 < l.length) (hkl : k < l.length) (hil : i < l.length) (h : aheadT lt l[k] l[i] = true) : down lt l i = down lt ((l.set i l[k]).set k l[i]) k := by
  subst hk
  rw [down, dif_pos h0, List.getElem?_eq_getElem hkl, List.getElem?_eq_getElem hil]
  simp only [h, if_true]
  rw [swap_eq l i _ hil hkl]
end Pl
end Go.Proofs.Ytcppiidfaaafeaa
