/- Chains of words, in plain words: what stays is sorted, and is what begins with no other. -/
import Derived.Test.YthchppnfffllnaaCSIns
import Derived.Laws.Strings
import Derived.WideShapes
set_option linter.unusedVariables false
set_option linter.unusedSimpArgs false
namespace Go.Proofs.Ythchppnfffllnaa
open Go.RowKit PChainScript
namespace CS
def ahd (a b : ByteArray) : Bool := decide (a.size ≤ b.size) && (a.toList == (b.extract 0 a.size).toList)
def bef (a b : ByteArray) : Bool := Op.bytesLess a.toList b.toList
theorem tl (s : ByteArray) : s.toList = s.data.toList := ByteArray.toList_eq s
theorem tl_inj {a b : ByteArray} (h : a.toList = b.toList) : a = b := by
  rw [tl, tl] at h
  exact WideShapes.bytes_inj h
theorem tl_len (s : ByteArray) : s.toList.length = s.size := by rw [tl]; rfl
theorem tl_extract (b : ByteArray) (n : Nat) : (b.extract 0 n).toList = b.toList.take n := by
  rw [tl, tl]
  have : (b.extract 0 n).data = b.data.extract 0 n := by simp
  rw [this]
  simp
theorem ahd_iff (a b : ByteArray) : ahd a b = true ↔ a.toList <+: b.toList := by
  unfold ahd
  rw [tl_extract, Bool.and_eq_true, decide_eq_true_eq, beq_iff_eq]
  constructor
  · rintro ⟨_, h⟩
    rw [h]
    exact List.take_prefix _ _
  · intro h
    have h1 := h.length_le
    rw [tl_len, tl_len] at h1
    refine ⟨h1, ?_⟩
    have h2 := List.prefix_iff_eq_take.1 h
    rw [tl_len] at h2
    exact h2
theorem less_irrefl : ∀ (x : List UInt8), Op.bytesLess x x = false
  | [] => rfl
  | a :: x => by simp [Op.bytesLess, less_irrefl x, UInt8.lt_irrefl]
theorem less_trans : ∀ (x y z : List UInt8), Op.bytesLess x y = true → Op.bytesLess y z = true → Op.bytesLess x z = true
  | _, [], _, h, _ => by cases ‹List UInt8› <;> simp [Op.bytesLess] at h
  | _, _ :: _, [], _, k => by simp [Op.bytesLess] at k
  | [], _ :: _, _ :: _, _, _ => rfl
  | a :: x, b :: y, c :: z, h, k => by
    simp only [Op.bytesLess, Bool.or_eq_true, Bool.and_eq_true, beq_iff_eq, decide_eq_true_eq] at *
    rcases h with h | ⟨rfl, h⟩
    · rcases k with k | ⟨rfl, k⟩
      · exact .inl (UInt8.lt_trans h k)
      · exact .inl h
    · rcases k with k | ⟨rfl, k⟩
      · exact .inl k
      · exact .inr ⟨rfl, less_trans x y z h k⟩
theorem less_total : ∀ (x y : List UInt8), Op.bytesLess x y = false → x ≠ y → Op.bytesLess y x = true
  | [], [], _, k => absurd rfl k
  | _ :: _, [], _, _ => rfl
  | [], _ :: _, h, _ => by simp [Op.bytesLess] at h
  | a :: x, b :: y, h, k => by
    simp only [Op.bytesLess, Bool.or_eq_true, Bool.and_eq_true, beq_iff_eq, decide_eq_true_eq, Bool.or_eq_false_iff, decide_eq_false_iff_not, Bool.and_eq_false_iff] at *
    by_cases e : a = b
    · subst e
      refine .inr ⟨rfl, less_total x y ?_ (fun e => k (by rw [e]))⟩
      rcases h.2 with h | h
      · simp at h
      · exact h
    · left
      rcases UInt8.lt_or_lt_of_ne e with h1 | h1
      · exact absurd h1 h.1
      · exact h1
theorem bel0_refl (x : ByteArray) : ahd x x = true := (ahd_iff _ _).2 (List.prefix_refl _)
theorem bel0_trans {x y z : ByteArray} (h : ahd x y = true) (k : ahd y z = true) : ahd x z = true := by
  rw [ahd_iff] at *; exact h.trans k
theorem bel0_anti {x y : ByteArray} (h : ahd x y = true) (k : ahd y x = true) : x = y := by
  rw [ahd_iff] at *
  exact tl_inj (h.eq_of_length (Nat.le_antisymm h.length_le k.length_le))
theorem fst0_trans {x y z : ByteArray} (h : bef x y = true) (k : bef y z = true) : bef x z = true := less_trans _ _ _ h k
theorem fst0_irrefl (x : ByteArray) : ¬ bef x x = true := by unfold bef; rw [less_irrefl]; simp
theorem fst0_total {x y : ByteArray} (h : ¬ bef x y = true) (hne : x ≠ y) : bef y x = true := less_total _ _ (by simpa [bef] using h) (fun e => hne (tl_inj e))
/-- How many came in. -/
def came (r f : ByteArray → ByteArray → Bool) : List ByteArray → List ByteArray → Nat
  | [], _ => 0
  | x :: xs, l => (if l.any (fun y => r y x) then 0 else 1) + came r f xs (insertL r f x l)
def joinL (r f : ByteArray → ByteArray → Bool) (xs l : List ByteArray) : List ByteArray := xs.foldl (fun l x => insertL r f x l) l
theorem came_snoc (r f : ByteArray → ByteArray → Bool) (xs : List ByteArray) (x : ByteArray) (l : List ByteArray) : came r f (xs ++ [x]) l = came r f xs l + (if (joinL r f xs l).any (fun y => r y x) then 0 else 1) := by
  induction xs generalizing l with
  | nil => simp [came, joinL]
  | cons a xs ih =>
    simp only [List.cons_append, came, ih]
    have : joinL r f (a :: xs) l = joinL r f xs (insertL r f a l) := rfl
    rw [this]
    omega
theorem joinL_snoc (r f : ByteArray → ByteArray → Bool) (xs : List ByteArray) (x : ByteArray) (l : List ByteArray) : joinL r f (xs ++ [x]) l = insertL r f x (joinL r f xs l) := by simp [joinL]
theorem came_le (r f : ByteArray → ByteArray → Bool) (xs : List ByteArray) (l : List ByteArray) : came r f xs l ≤ xs.length := by
  induction xs generalizing l with
  | nil => simp [came]
  | cons a xs ih => have := ih (insertL r f a l); simp only [came, List.length_cons]; split <;> omega
theorem insAt_length {i : Nat} {x : ByteArray} {m : List ByteArray} (h : i ≤ m.length) : (insAt i x m).length = m.length + 1 := by
  unfold insAt; simp; omega
theorem insertL_length (r f : ByteArray → ByteArray → Bool) (x : ByteArray) (l : List ByteArray) : (insertL r f x l).length ≤ l.length + 1 := by
  unfold insertL
  split
  · omega
  · rw [insAt_length (pos_le _ _ _)]
    have : (cutL r x l).length ≤ l.length := List.length_filter_le _ _
    omega
theorem joinL_length (r f : ByteArray → ByteArray → Bool) (xs l : List ByteArray) : (joinL r f xs l).length ≤ xs.length + l.length := by
  induction xs generalizing l with
  | nil => simp [joinL]
  | cons a xs ih =>
    have h1 := ih (insertL r f a l)
    have h2 := insertL_length r f a l
    have : joinL r f (a :: xs) l = joinL r f xs (insertL r f a l) := rfl
    rw [this, List.length_cons]
    omega
/-- Sorted; just what nothing of S is at or ahead of; and each of S has one of the list at or ahead of it. -/
structure Good (S : ByteArray → Prop) (l : List ByteArray) : Prop where
  sorted : l.Pairwise (fun x y => bef x y = true)
  mem : ∀ y, y ∈ l ↔ (S y ∧ ∀ z, S z → ahd z y = true → z = y)
  cover : ∀ z, S z → ∃ y ∈ l, ahd y z = true
theorem Good.nil : Good (fun _ => False) [] := ⟨.nil, fun y => by simp, fun z h => h.elim⟩
theorem Good.same {S T : ByteArray → Prop} {l : List ByteArray} (h : Good S l) (e : ∀ y, S y ↔ T y) : Good T l := by
  have : S = T := funext fun y => propext (e y)
  rw [← this]; exact h
theorem pos_spec (x : ByteArray) (m : List ByteArray) : (∀ j (hj : j < pos (bef) x m) (hl : j < m.length), bef x m[j] = false) ∧ (∀ (h : pos (bef) x m < m.length), bef x m[pos (bef) x m] = true) := by
  unfold pos idxI
  cases hf : m.findIdx? (bef x) with
  | none =>
    have hn := List.findIdx?_eq_none_iff.1 hf
    simp only [show (-1 : Int) < 0 by omega, if_true]
    exact ⟨fun j hj hl => by simpa using hn _ (List.getElem_mem hl), fun h => absurd h (by omega)⟩
  | some i =>
    obtain ⟨hi, hp, hb⟩ := List.findIdx?_eq_some_iff_getElem.1 hf
    have e : (if ((i : Nat) : Int) < 0 then m.length else ((i : Nat) : Int).toNat) = i := by rw [if_neg (by omega)]; simp
    simp only [e]
    exact ⟨fun j hj hl => by simpa using hb j hj, fun _ => hp⟩
theorem Good.insert {S : ByteArray → Prop} {l : List ByteArray} (h : Good S l) (x : ByteArray) : Good (fun y => S y ∨ y = x) (insertL (ahd) (bef) x l) := by
  unfold insertL
  cases hany : l.any (fun y => ahd y x) with
  | true =>
    simp only [if_true]
    obtain ⟨y0, hy0, hyx⟩ := List.any_eq_true.1 hany
    have m0 := (h.mem y0).1 hy0
    refine ⟨h.sorted, fun y => ⟨fun hy => ?_, fun hy => ?_⟩, fun z hz => ?_⟩
    · obtain ⟨h1, h2⟩ := (h.mem y).1 hy
      refine ⟨.inl h1, fun z hz hzy => ?_⟩
      rcases hz with hz | rfl
      · exact h2 z hz hzy
      · have e := h2 y0 m0.1 (bel0_trans hyx hzy)
        subst e
        exact bel0_anti hzy hyx
    · obtain ⟨h1, h2⟩ := hy
      have hS : S y := by
        rcases h1 with h1 | rfl
        · exact h1
        · have := h2 y0 (.inl m0.1) hyx
          rw [← this]; exact m0.1
      exact (h.mem y).2 ⟨hS, fun z hz => h2 z (.inl hz)⟩
    · rcases hz with hz | rfl
      · exact h.cover z hz
      · exact ⟨y0, hy0, hyx⟩
  | false =>
    simp only [Bool.false_eq_true, if_false]
    have hno : ∀ y ∈ l, ahd y x = false := fun y hy => by
      have := List.any_eq_false.1 hany y hy
      simpa using this
    obtain ⟨m, hm⟩ : ∃ m, m = cutL (ahd) x l := ⟨_, rfl⟩
    rw [← hm]
    have hmm : ∀ y, y ∈ m ↔ (y ∈ l ∧ ahd x y = false) := fun y => by rw [hm]; unfold cutL; rw [List.mem_filter]; simp
    have hms : m.Pairwise (fun x y => bef x y = true) := by rw [hm]; exact h.sorted.filter _
    obtain ⟨p, hp⟩ : ∃ p, p = pos (bef) x m := ⟨_, rfl⟩
    have hple : p ≤ m.length := by rw [hp]; exact pos_le _ _ _
    have hsp := pos_spec x m
    rw [← hp] at hsp ⊢
    have hmem : ∀ y, y ∈ insAt p x m ↔ (y = x ∨ y ∈ m) := fun y => by
      unfold insAt
      have e : y ∈ m ↔ y ∈ m.take p ∨ y ∈ m.drop p := by rw [← List.mem_append, List.take_append_drop]
      rw [List.mem_append, List.mem_cons, e]
      constructor
      · rintro (h | h | h)
        · exact .inr (.inl h)
        · exact .inl h
        · exact .inr (.inr h)
      · rintro (h | h | h)
        · exact .inr (.inl h)
        · exact .inl h
        · exact .inr (.inr h)
    have hxm : ∀ z, S z → ahd z x = true → False := fun z hz hzx => by
      obtain ⟨y, hy, hyz⟩ := h.cover z hz
      have := hno y hy
      rw [bel0_trans hyz hzx] at this
      cases this
    refine ⟨?_, fun y => ⟨fun hy => ?_, fun hy => ?_⟩, fun z hz => ?_⟩
    · unfold insAt
      have hbefore : ∀ y ∈ m.take p, bef y x = true := fun y hy => by
        obtain ⟨j, hj, rfl⟩ := List.getElem_of_mem hy
        have hj' : j < p := by simp at hj; omega
        have hjm : j < m.length := by omega
        have h1 := hsp.1 j hj' hjm
        rw [List.getElem_take]
        refine fst0_total (by rw [h1]; simp) fun e => ?_
        have hin := (hmm m[j]).1 (List.getElem_mem hjm)
        rw [← e, bel0_refl] at hin
        simp at hin
      have hafter : ∀ y ∈ m.drop p, bef x y = true := fun y hy => by
        obtain ⟨j, hj, rfl⟩ := List.getElem_of_mem hy
        have hpl : p < m.length := by simp at hj; omega
        have h2 := hsp.2 hpl
        rw [List.getElem_drop]
        rcases Nat.eq_zero_or_pos j with h0 | h0
        · subst h0; exact h2
        · have hlt : p + j < m.length := by simp at hj; omega
          exact fst0_trans h2 (List.pairwise_iff_getElem.1 hms p (p + j) hpl hlt (by omega))
      rw [List.pairwise_append]
      refine ⟨hms.sublist (List.take_sublist _ _), List.pairwise_cons.2 ⟨hafter, hms.sublist (List.drop_sublist _ _)⟩, fun a ha b hb => ?_⟩
      rcases List.mem_cons.1 hb with rfl | hb
      · exact hbefore a ha
      · exact fst0_trans (hbefore a ha) (hafter b hb)
    · rcases (hmem y).1 hy with rfl | hy
      · exact ⟨.inr rfl, fun z hz hzx => by
          rcases hz with hz | hz
          · exact (hxm z hz hzx).elim
          · exact hz⟩
      · obtain ⟨h1, h2⟩ := (hmm y).1 hy
        obtain ⟨h3, h4⟩ := (h.mem y).1 h1
        exact ⟨.inl h3, fun z hz hzy => by
          rcases hz with hz | rfl
          · exact h4 z hz hzy
          · rw [h2] at hzy; cases hzy⟩
    · obtain ⟨h1, h2⟩ := hy
      refine (hmem y).2 ?_
      rcases h1 with h1 | h1
      · by_cases hxy : ahd x y = true
        · exact .inl (h2 x (.inr rfl) hxy).symm
        · exact .inr ((hmm y).2 ⟨(h.mem y).2 ⟨h1, fun z hz => h2 z (.inl hz)⟩, by simpa using hxy⟩)
      · exact .inl h1
    · rcases hz with hz | rfl
      · obtain ⟨y, hy, hyz⟩ := h.cover z hz
        by_cases hxy : ahd x y = true
        · exact ⟨x, (hmem x).2 (.inl rfl), bel0_trans hxy hyz⟩
        · exact ⟨y, (hmem y).2 (.inr ((hmm y).2 ⟨hy, by simpa using hxy⟩)), hyz⟩
      · exact ⟨z, (hmem z).2 (.inl rfl), bel0_refl z⟩
theorem good_join (xs : List ByteArray) {S : ByteArray → Prop} {l : List ByteArray} (h : Good S l) : Good (fun y => S y ∨ y ∈ xs) (joinL (ahd) (bef) xs l) := by
  induction xs generalizing S l with
  | nil => exact h.same (fun y => by simp)
  | cons x xs ih =>
    have := ih (h.insert x)
    exact this.same (fun y => by simp [or_assoc])
theorem good_join0 (xs : List ByteArray) : Good (fun y => y ∈ xs) (joinL (ahd) (bef) xs []) := (good_join xs Good.nil).same (fun y => by simp)
theorem sorted_eq : ∀ {l m : List ByteArray}, l.Pairwise (fun x y => bef x y = true) → m.Pairwise (fun x y => bef x y = true) → (∀ y, y ∈ l ↔ y ∈ m) → l = m
  | [], [], _, _, _ => rfl
  | [], b :: m, _, _, h => absurd ((h b).2 (List.mem_cons_self ..)) (by simp)
  | a :: l, [], _, _, h => absurd ((h a).1 (List.mem_cons_self ..)) (by simp)
  | a :: l, b :: m, hl, hm, h => by
    obtain ⟨hl1, hl2⟩ := List.pairwise_cons.1 hl
    obtain ⟨hm1, hm2⟩ := List.pairwise_cons.1 hm
    have hab : a = b := by
      rcases List.mem_cons.1 ((h a).1 (List.mem_cons_self ..)) with e | e
      · exact e
      · rcases List.mem_cons.1 ((h b).2 (List.mem_cons_self ..)) with e2 | e2
        · exact e2.symm
        · exact absurd (fst0_trans (hm1 a e) (hl1 b e2)) (fst0_irrefl b)
    subst hab
    have : l = m := sorted_eq hl2 hm2 fun y => by
      constructor
      · intro hy
        rcases List.mem_cons.1 ((h y).1 (List.mem_cons_of_mem _ hy)) with e | e
        · subst e; exact absurd (hl1 y hy) (fst0_irrefl y)
        · exact e
      · intro hy
        rcases List.mem_cons.1 ((h y).2 (List.mem_cons_of_mem _ hy)) with e | e
        · subst e; exact absurd (hm1 y hy) (fst0_irrefl y)
        · exact e
    rw [this]
theorem Good.unique {S T : ByteArray → Prop} {l m : List ByteArray} (h : Good S l) (k : Good T m) (e : ∀ y, S y ↔ T y) : l = m := by
  have k2 := k.same (fun y => (e y).symm)
  exact sorted_eq h.sorted k2.sorted fun y => by rw [h.mem, k2.mem]
end CS
end Go.Proofs.Ythchppnfffllnaa
