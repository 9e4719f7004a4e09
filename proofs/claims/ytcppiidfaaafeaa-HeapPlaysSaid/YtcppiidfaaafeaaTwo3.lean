/- HeapTwo's plain law: what is popped by lengths is told rightly; what is popped in any order is what was pushed. -/
import Derived.Test.YtcppiidfaaafeaaTwo2
import Derived.Test.YtcppiidfaaafeaaOrds
set_option linter.unusedVariables false
set_option linter.unusedSimpArgs false
namespace Go.Proofs.Ytcppiidfaaafeaa
open Go.RowKit Pl
namespace Two
abbrev TB := Th ByteArray
def pairs (ss : List ByteArray) (i : Nat) : List TB := (List.range i).map (fun j => ⟨ss.getD j ByteArray.empty, (j : Int)⟩)
theorem pairs_succ (ss : List ByteArray) (i : Nat) : pairs ss (i + 1) = pairs ss i ++ [⟨ss.getD i ByteArray.empty, (i : Int)⟩] := by simp [pairs, List.range_succ]
theorem pairs_vals (ss : List ByteArray) : (pairs ss ss.length).map (·.v) = ss := by
  apply List.ext_getElem?
  intro j
  by_cases h : j < ss.length
  · simp [pairs, h, List.getD]
  · simp [pairs, h]

def GoodTo (ss : List ByteArray) : List Bool → List ByteArray → List Bool → Prop
  | U, [], V => U = V
  | U, s :: os, V => ∃ κ, IsMin ss U κ ∧ ss[κ]? = some s ∧ GoodTo ss (U.set κ true) os V
theorem GoodTo.good {ss : List ByteArray} : ∀ {os : List ByteArray} {U V : List Bool}, GoodTo ss U os V → Good ss U os
  | [], _, _, _ => trivial
  | _ :: _, _, _, ⟨κ, h1, h2, h3⟩ => ⟨κ, h1, h2, GoodTo.good h3⟩
theorem GoodTo.snoc {ss : List ByteArray} : ∀ {os : List ByteArray} {U V : List Bool} {κ : Nat} {s : ByteArray}, GoodTo ss U os V → IsMin ss V κ → ss[κ]? = some s → GoodTo ss U (os ++ [s]) (V.set κ true)
  | [], _, _, κ, _, h, hm, hs => by subst h; exact ⟨κ, hm, hs, rfl⟩
  | _ :: _, _, _, _, _, ⟨κ', h1, h2, h3⟩, hm, hs => ⟨κ', h1, h2, GoodTo.snoc h3 hm hs⟩
/-- R holds what V does not mark. -/
structure Rel (ss : List ByteArray) (V : List Bool) (R : List TB) : Prop where
  len : V.length = ss.length
  here : ∀ x ∈ R, ∃ j : Nat, x.no = j ∧ V[j]? = some false ∧ ss[j]? = some x.v
  all : ∀ (j : Nat) s, V[j]? = some false → ss[j]? = some s → (⟨s, (j : Int)⟩ : TB) ∈ R
theorem rel_start (ss : List ByteArray) : Rel ss (List.replicate ss.length false) (pairs ss ss.length) := by
  refine ⟨by simp, ?_, ?_⟩
  · intro x hx
    simp [pairs] at hx
    obtain ⟨j, hj, rfl⟩ := hx
    exact ⟨j, rfl, by simp [hj], by simp [hj]⟩
  · intro j s _ hs
    obtain ⟨hj, rfl⟩ := List.getElem?_eq_some_iff.1 hs
    simp [pairs]
    exact ⟨j, hj, by simp [hj]⟩
theorem sz_of {ss : List ByteArray} {j : Nat} {s : ByteArray} (h : ss[j]? = some s) : (sz ss j : Int) = sizeKey s := by
  obtain ⟨hj, rfl⟩ := List.getElem?_eq_some_iff.1 h
  simp [sz, sizeKey, hj]
theorem Rel.step {ss : List ByteArray} {V : List Bool} {R : List TB} (h : Rel ss V R) (hinc : R.Pairwise (fun x y => x.no < y.no)) (k : Nat) (hk : k < R.length) (hm : FirstMin sizeKey (R.map (·.v)) k) :
    ∃ κ, IsMin ss V κ ∧ ss[κ]? = some R[k].v ∧ Rel ss (V.set κ true) (R.eraseIdx k) := by
  obtain ⟨κ, hno, hV, hs⟩ := h.here _ (List.getElem_mem hk)
  have hκ : κ < ss.length := (List.getElem?_eq_some_iff.1 hs).1
  have place : ∀ i : Nat, V[i]? = some false → ∃ j, ∃ hj : j < R.length, R[j].no = i ∧ ss[i]? = some R[j].v := by
    intro i hi
    have hil : i < ss.length := by rw [← h.len]; exact (List.getElem?_eq_some_iff.1 hi).1
    have := h.all i _ hi (List.getElem?_eq_getElem hil)
    obtain ⟨j, hj, he⟩ := List.getElem_of_mem this
    exact ⟨j, hj, by rw [he], by rw [he]; exact List.getElem?_eq_getElem hil⟩
  have cmp : ∀ i : Nat, V[i]? = some false → (i < κ → sz ss κ < sz ss i) ∧ (κ ≤ i → sz ss κ ≤ sz ss i) := by
    intro i hi
    obtain ⟨j, hj, hjn, hjs⟩ := place i hi
    have e1 := sz_of hjs
    have e2 := sz_of hs
    have hf := hm.2 j R[j].v R[k].v (by simp [hj]) (by simp [hk])
    constructor
    · intro hik
      have hjk : j < k := by
        rcases Nat.lt_trichotomy j k with h' | h' | h'
        · exact h'
        · subst h'; rw [hjn] at hno; omega
        · have := List.pairwise_iff_getElem.1 hinc k j hk hj h'; omega
      have := hf.1 hjk
      omega
    · intro hik
      have hjk : k ≤ j := by
        rcases Nat.lt_or_ge j k with h' | h'
        · have := List.pairwise_iff_getElem.1 hinc j k hj hk h'; omega
        · exact h'
      have := hf.2 hjk
      omega
  refine ⟨κ, ⟨hV, fun i hi hf => (cmp i hf).1 hi, fun i hi hf => (cmp i hf).2 hi⟩, hs, ⟨by simp [h.len], ?_, ?_⟩⟩
  · intro x hx
    obtain ⟨j, hj, hjk, rfl⟩ := List.mem_eraseIdx_iff_getElem.1 hx
    obtain ⟨i, hi, hiV, his⟩ := h.here _ (List.getElem_mem hj)
    refine ⟨i, hi, ?_, his⟩
    rw [List.getElem?_set_ne]
    · exact hiV
    · intro e
      subst e
      rcases Nat.lt_or_gt_of_ne hjk with h' | h'
      · have := List.pairwise_iff_getElem.1 hinc j k hj hk h'; omega
      · have := List.pairwise_iff_getElem.1 hinc k j hk hj h'; omega
  · intro j s hj hs'
    by_cases hjκ : κ = j
    · subst hjκ
      rw [List.getElem?_set_self (by rw [h.len]; exact hκ)] at hj
      cases hj
    · rw [List.getElem?_set_ne hjκ] at hj
      have hin := h.all j s hj hs'
      obtain ⟨i, hi, he⟩ := List.getElem_of_mem hin
      refine List.mem_eraseIdx_iff_getElem.2 ⟨i, hi, ?_, he⟩
      intro e
      subst e
      rw [he] at hno
      simp at hno
      omega
end Two
end Go.Proofs.Ytcppiidfaaafeaa
