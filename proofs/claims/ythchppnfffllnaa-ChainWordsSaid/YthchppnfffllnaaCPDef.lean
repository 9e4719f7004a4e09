/- The chain of one type: what it is in memory. -/
import Derived.Test.YthchppnfffllnaaPChainScriptx2
import Derived.Test.YthchppnfffllnaaBase
import Derived.Test.YthchppnfffllnaaWords
set_option linter.unusedVariables false
set_option linter.unusedSimpArgs false
namespace Go.Proofs.Ythchppnfffllnaa
open Go.RowKit PChainScript
namespace CP
abbrev vt (t : S35) : Value := .agg #[.int .i64 t.f0, .int .i64 t.f1]
def ct (x : S35) : List Value := [.int .i64 x.f0, .int .i64 x.f1]
def flat (l : List S35) : List Value := l.flatMap ct
theorem flat_append (l m : List S35) : flat (l ++ m) = flat l ++ flat m := by simp [flat]
theorem flat_length (l : List S35) : (flat l).length = l.length * 2 := by
  induction l with
  | nil => rfl
  | cons a l ih => simp only [flat, List.flatMap_cons, List.length_append, ct, List.length_cons, List.length_nil] at ih ⊢; omega
theorem flat_get (l : List S35) (i j : Nat) (hi : i < l.length) (hj : j < 2) : (flat l)[i * 2 + j]? = (ct l[i])[j]? := by
  induction l generalizing i with
  | nil => simp at hi
  | cons a l ih =>
    have e : flat (a :: l) = ct a ++ flat l := rfl
    cases i with
    | zero => rw [e, Nat.zero_mul, Nat.zero_add, List.getElem?_append_left (by rw [show (ct a).length = 2 from rfl]; exact hj)]; rfl
    | succ i =>
      rw [e, List.getElem?_append_right (by simp [ct] <;> omega)]
      have : (i + 1) * 2 + j - (ct a).length = i * 2 + j := by simp [ct] <;> omega
      rw [this, ih i (by simpa using hi)]
      rfl
theorem flat_take (l : List S35) (n : Nat) : flat (l.take n) = (flat l).take (n * 2) := by
  rcases Nat.lt_or_ge n l.length with h | h
  · have e : flat l = flat (l.take n) ++ flat (l.drop n) := by rw [← flat_append, List.take_append_drop]
    rw [e]; exact (List.take_left' (by rw [flat_length, List.length_take]; omega)).symm
  · rw [List.take_of_length_le h, List.take_of_length_le (by rw [flat_length]; exact Nat.mul_le_mul_right _ h)]
theorem flat_one (l : List S35) : ∀ u ∈ flat l, u.oneCell' = true := by
  intro u hu
  simp only [flat, List.mem_flatMap] at hu
  obtain ⟨x, _, h⟩ := hu
  simp [ct] at h
  rcases h with rfl | rfl <;> rfl
/-- One element stored over another: cell by cell. -/
theorem flat_set (l : List S35) (i : Nat) (x : S35) : (((flat l).set (i * 2) (.int .i64 x.f0)).set (i * 2 + 1) (.int .i64 x.f1)) = flat (l.set i x) := by
  induction l generalizing i with
  | nil => simp [flat]
  | cons a l ih =>
    cases i with
    | zero => simp [flat, ct]
    | succ i =>
      have e : flat (a :: l) = ct a ++ flat l := rfl
      have e2 : flat ((a :: l).set (i + 1) x) = ct a ++ flat (l.set i x) := rfl
      have hc : (ct a).length = 2 := rfl
      rw [e2, ← ih i, e]
      rw [show (i + 1) * 2 = 2 + i * 2 by omega, show 2 + i * 2 + 1 = 2 + (i * 2 + 1) by omega]
      simp only [Nat.add_assoc, ← hc, List.set_append_right _ _ (Nat.le_add_right _ _), Nat.add_sub_cancel_left]
/-- A function of two. -/
structure Rel (f : Nat) (lt : S35 → S35 → Bool) : Prop where
  call : ∀ args W, Sem.run Try.prog (callFunc f args) W = .ok (.enter f args) W
  does : ∀ (x y : S35) (W : World), Calls Try.prog f #[vt x, vt y] W fun e w' => e = .returned (.bool (lt x y)) ∧ Below W.heap.size W w'
/-- A row of the chain's. -/
abbrev Own (B : Nat) (w : World) (v : Value) (n : Nat) (l : List S35) : Prop := w.ownsRow B 35 2 v n (flat l)
theorem Own.len {B : Nat} {w : World} {v : Value} {n : Nat} {l : List S35} (h : Own B w v n l) : n = l.length := by
  have := h.1
  rw [flat_length] at this
  omega
theorem Own.at_ {B : Nat} {w : World} {g n c : Nat} {l : List S35} (ho : Own B w (.slice (some ⟨g, 0, none⟩) n c) n l) (i : Nat) (hi : i < l.length) :
    w.cell? ⟨g, i * 2, none⟩ = some (.int .i64 l[i].f0) ∧ w.cell? ⟨g, i * 2 + 1, none⟩ = some (.int .i64 l[i].f1) := by
  have hn := ho.len
  subst hn
  refine ⟨?_, ?_⟩
  · rw [ho.cellAt _ (by omega)]; exact flat_get l i 0 hi (by omega)
  · rw [ho.cellAt _ (by omega)]; exact flat_get l i 1 hi (by omega)
theorem Own.form {B : Nat} {w : World} {v : Value} {n : Nat} {l : List S35} (h : Own B w v n l) (hl : 0 < n) :
    ∃ g c, v = .slice (some ⟨g, 0, none⟩) n c ∧ B ≤ g ∧ g < w.heap.size ∧ n ≤ c ∧ c ≤ maxLen := by
  rcases h.2 with ⟨_, h1⟩ | ⟨g, cap, cur, hv, hB, hh, hc, hm, _⟩
  · omega
  · exact ⟨g, cap, hv, hB, blk_lt hh, hc, hm⟩
/-- One element stored over another. -/
theorem own_set {B : Nat} {w : World} {g n c : Nat} {l : List S35} (h : Own B w (.slice (some ⟨g, 0, none⟩) n c) n l) (i : Nat) (x : S35) :
    Own B (((w.setCell ⟨g, i * 2, none⟩ (.int .i64 x.f0)).setCell ⟨g, i * 2 + 1, none⟩ (.int .i64 x.f1))) (.slice (some ⟨g, 0, none⟩) n c) n (l.set i x) := by
  unfold Own
  rw [← flat_set]
  exact ((h.stored (i * 2) _).1.stored (i * 2 + 1) _).1
/-- A chain at block hb: its two functions, its row v. -/
structure Chain (B : Nat) (w : World) (hb fb ff : Nat) (v : Value) (l : List S35) : Prop where
  base : B ≤ hb
  blk : w.heap[hb]? = some (.cells #[.func (.func fb) #[] #[], .func (.func ff) #[] #[], v] 66 (0, 0))
  own : Own B w v l.length l
theorem Chain.below {B : Nat} {w w' : World} {hb fb ff : Nat} {v : Value} {l : List S35} (h : Chain B w hb fb ff v l) (hw : Below w.heap.size w w') : Chain B w' hb fb ff v l :=
  ⟨h.base, blk_below h.blk hw, own_below h.own hw⟩
theorem Chain.shape {B : Nat} {w : World} {hb fb ff : Nat} {v : Value} {l : List S35} (h : Chain B w hb fb ff v l) : ∃ a c, v = .slice a l.length c := own_shape h.own
theorem Chain.not_row {B : Nat} {w : World} {hb fb ff : Nat} {v : Value} {l : List S35} (H : Chain B w hb fb ff v l) : v.ownBlock ≠ some hb := by
  intro e
  rcases H.own.2 with ⟨h, _⟩ | ⟨g, cap, cur, h, _, hh, _⟩
  · rw [h] at e; simp [Value.ownBlock] at e
  · rw [h] at e; simp [Value.ownBlock] at e; exact blk_ne hh H.blk (by decide) e
/-- The row put in place of the elder one. -/
theorem Chain.put {B : Nat} {w w1 : World} {hb fb ff : Nat} {v v1 : Value} {l m : List S35} (H : Chain B w hb fb ff v l) (hk : w1.heap[hb]? = w.heap[hb]?) (ho : Own B w1 v1 m.length m) (hne : v1.ownBlock ≠ some hb) :
    Chain B (w1.setCell ⟨hb, 2, none⟩ v1) hb fb ff v1 m := by
  refine ⟨H.base, blk_set (hk.trans H.blk) 2 v1, ?_⟩
  have F := ((Fr.refl w1 hb none).setCell (p := ⟨hb, 2, none⟩) (.inl rfl) v1)
  exact F.own ho hne (by cases h : v1.ownBlock <;> simp)
/-- The first place at which p holds, or -1. -/
def idxI (p : S35 → Bool) (l : List S35) : Int := match l.findIdx? p with
  | some i => (i : Int)
  | none => -1
theorem idxI_at {p : S35 → Bool} {l : List S35} {i : Nat} (hi : i < l.length) (h : p l[i] = true) (hb : ∀ j (hj : j < i), p (l[j]'(by omega)) = false) : idxI p l = i := by
  unfold idxI
  rw [List.findIdx?_eq_some_iff_getElem.2 ⟨hi, h, fun j hj => by simp [hb j hj]⟩]
theorem idxI_no {p : S35 → Bool} {l : List S35} (h : ∀ j (hj : j < l.length), p l[j] = false) : idxI p l = -1 := by
  unfold idxI
  rw [List.findIdx?_eq_none_iff.2 (fun x hx => by obtain ⟨j, hj, rfl⟩ := List.getElem_of_mem hx; exact h j hj)]
theorem idxI_lo (p : S35 → Bool) (l : List S35) : -1 ≤ idxI p l := by
  unfold idxI
  split <;> omega
theorem idxI_ge (p : S35 → Bool) (l : List S35) : decide (0 ≤ idxI p l) = l.any p := by
  unfold idxI
  cases h : l.findIdx? p with
  | none =>
    have := List.findIdx?_eq_none_iff.1 h
    have e : l.any p = false := by simpa using this
    simp [e]
  | some i =>
    obtain ⟨hi, hp, _⟩ := List.findIdx?_eq_some_iff_getElem.1 h
    have e : l.any p = true := List.any_eq_true.2 ⟨_, List.getElem_mem hi, hp⟩
    simp [e]

end CP
end Go.Proofs.Ythchppnfffllnaa
