/- Chains by both numbers, in plain words: what stays is sorted, and is what nothing else is at or ahead of. -/
import Derived.Test.YthchppnfffllnaaCPJoin
set_option linter.unusedVariables false
set_option linter.unusedSimpArgs false
namespace Go.Proofs.Ythchppnfffllnaa
open PChainScript
namespace CP
theorem bel0 (x y : S35) : bel 0 x y = true ↔ x.f0 ≤ y.f0 ∧ x.f1 ≤ y.f1 := by
  unfold bel sluiceref03_Below.f
  simp only [if_true]
  split
  · simp; omega
  · simp; omega
theorem fst0 (x y : S35) : fst 0 x y = true ↔ x.f0 < y.f0 ∨ (x.f0 = y.f0 ∧ x.f1 < y.f1) := by
  unfold fst sluiceref03_First.f
  simp only [if_true, sluiceref03_First.j0]
  split
  · simp_all
    split
    · simp; omega
    · split
      · simp; omega
      · simp; omega
  · simp_all
theorem s_ext {x y : S35} (h0 : x.f0 = y.f0) (h1 : x.f1 = y.f1) : x = y := by
  cases x; cases y; simp_all
theorem bel0_refl (x : S35) : bel 0 x x = true := (bel0 _ _).2 ⟨Int.le_refl _, Int.le_refl _⟩
theorem bel0_trans {x y z : S35} (h : bel 0 x y = true) (k : bel 0 y z = true) : bel 0 x z = true := by
  rw [bel0] at *; omega
theorem bel0_anti {x y : S35} (h : bel 0 x y = true) (k : bel 0 y x = true) : x = y := by
  rw [bel0] at *; exact s_ext (by omega) (by omega)
theorem fst0_trans {x y z : S35} (h : fst 0 x y = true) (k : fst 0 y z = true) : fst 0 x z = true := by
  rw [fst0] at *; omega
theorem fst0_irrefl (x : S35) : ¬ fst 0 x x = true := by
  rw [fst0]; omega
theorem fst0_total {x y : S35} (h : ¬ fst 0 x y = true) (hne : x ≠ y) : fst 0 y x = true := by
  rw [fst0] at *
  by_cases h0 : x.f0 = y.f0
  · by_cases h1 : x.f1 = y.f1
    · exact absurd (s_ext h0 h1) hne
    · omega
  · omega
/-- Sorted; just what nothing of S is at or ahead of; and each of S has one of the list at or ahead of it. -/
structure Good (S : S35 → Prop) (l : List S35) : Prop where
  sorted : l.Pairwise (fun x y => fst 0 x y = true)
  mem : ∀ y, y ∈ l ↔ (S y ∧ ∀ z, S z → bel 0 z y = true → z = y)
  cover : ∀ z, S z → ∃ y ∈ l, bel 0 y z = true
theorem Good.nil : Good (fun _ => False) [] := ⟨.nil, fun y => by simp, fun z h => h.elim⟩
theorem Good.same {S T : S35 → Prop} {l : List S35} (h : Good S l) (e : ∀ y, S y ↔ T y) : Good T l := by
  have : S = T := funext fun y => propext (e y)
  rw [← this]; exact h
theorem pos_spec (x : S35) (m : List S35) : (∀ j (hj : j < pos (fst 0) x m) (hl : j < m.length), fst 0 x m[j] = false) ∧ (∀ (h : pos (fst 0) x m < m.length), fst 0 x m[pos (fst 0) x m] = true) := by
  unfold pos idxI
  cases hf : m.findIdx? (fst 0 x) with
  | none =>
    have hn := List.findIdx?_eq_none_iff.1 hf
    simp only [show (-1 : Int) < 0 by omega, if_true]
    exact ⟨fun j hj hl => by simpa using hn _ (List.getElem_mem hl), fun h => absurd h (by omega)⟩
  | some i =>
    obtain ⟨hi, hp, hb⟩ := List.findIdx?_eq_some_iff_getElem.1 hf
    have e : (if ((i : Nat) : Int) < 0 then m.length else ((i : Nat) : Int).toNat) = i := by rw [if_neg (by omega)]; simp
    simp only [e]
    exact ⟨fun j hj hl => by simpa using hb j hj, fun _ => hp⟩
theorem Good.insert {S : S35 → Prop} {l : List S35} (h : Good S l) (x : S35) : Good (fun y => S y ∨ y = x) (insertL (bel 0) (fst 0) x l) := by
  unfold insertL
  cases hany : l.any (fun y => bel 0 y x) with
  | true =>
    simp only [if_true]
    obtain ⟨y0, hy0, hyx⟩ := List.any_eq_true.1 hany
    have m0 := (h.mem y0).1 hy0
    refine ⟨h.sorted, fun y => ⟨fun hy => ?_, fun hy => ?_⟩, fun z hz => ?_⟩
    · obtain ⟨h1, h2⟩ := (h.mem y).1 hy
      refine ⟨.inl h1, fun z hz hzy => ?_⟩
      rcases hz with hz | rfl
      · exact h2 z hz hzy
      · have e := h2 y0 m0.1 (bel0_trans hyx hzy)
        subst e
        exact bel0_anti hzy hyx
    · obtain ⟨h1, h2⟩ := hy
      have hS : S y := by
        rcases h1 with h1 | rfl
        · exact h1
        · have := h2 y0 (.inl m0.1) hyx
          rw [← this]; exact m0.1
      exact (h.mem y).2 ⟨hS, fun z hz => h2 z (.inl hz)⟩
    · rcases hz with hz | rfl
      · exact h.cover z hz
      · exact ⟨y0, hy0, hyx⟩
  | false =>
    simp only [Bool.false_eq_true, if_false]
    have hno : ∀ y ∈ l, bel 0 y x = false := fun y hy => by
      have := List.any_eq_false.1 hany y hy
      simpa using this
    obtain ⟨m, hm⟩ : ∃ m, m = cutL (bel 0) x l := ⟨_, rfl⟩
    rw [← hm]
    have hmm : ∀ y, y ∈ m ↔ (y ∈ l ∧ bel 0 x y = false) := fun y => by rw [hm]; unfold cutL; rw [List.mem_filter]; simp
    have hms : m.Pairwise (fun x y => fst 0 x y = true) := by rw [hm]; exact h.sorted.filter _
    obtain ⟨p, hp⟩ : ∃ p, p = pos (fst 0) x m := ⟨_, rfl⟩
    have hple : p ≤ m.length := by rw [hp]; exact pos_le _ _ _
    have hsp := pos_spec x m
    rw [← hp] at hsp ⊢
    have hmem : ∀ y, y ∈ insAt p x m ↔ (y = x ∨ y ∈ m) := fun y => by
      unfold insAt
      have e : y ∈ m ↔ y ∈ m.take p ∨ y ∈ m.drop p := by rw [← List.mem_append, List.take_append_drop]
      rw [List.mem_append, List.mem_cons, e]
      constructor
      · rintro (h | h | h)
        · exact .inr (.inl h)
        · exact .inl h
        · exact .inr (.inr h)
      · rintro (h | h | h)
        · exact .inr (.inl h)
        · exact .inl h
        · exact .inr (.inr h)
    have hxm : ∀ z, S z → bel 0 z x = true → False := fun z hz hzx => by
      obtain ⟨y, hy, hyz⟩ := h.cover z hz
      have := hno y hy
      rw [bel0_trans hyz hzx] at this
      cases this
    refine ⟨?_, fun y => ⟨fun hy => ?_, fun hy => ?_⟩, fun z hz => ?_⟩
    · unfold insAt
      have hbefore : ∀ y ∈ m.take p, fst 0 y x = true := fun y hy => by
        obtain ⟨j, hj, rfl⟩ := List.getElem_of_mem hy
        have hj' : j < p := by simp at hj; omega
        have hjm : j < m.length := by omega
        have h1 := hsp.1 j hj' hjm
        rw [List.getElem_take]
        refine fst0_total (by rw [h1]; simp) fun e => ?_
        have hin := (hmm m[j]).1 (List.getElem_mem hjm)
        rw [← e, bel0_refl] at hin
        simp at hin
      have hafter : ∀ y ∈ m.drop p, fst 0 x y = true := fun y hy => by
        obtain ⟨j, hj, rfl⟩ := List.getElem_of_mem hy
        have hpl : p < m.length := by simp at hj; omega
        have h2 := hsp.2 hpl
        rw [List.getElem_drop]
        rcases Nat.eq_zero_or_pos j with h0 | h0
        · subst h0; exact h2
        · have hlt : p + j < m.length := by simp at hj; omega
          exact fst0_trans h2 (List.pairwise_iff_getElem.1 hms p (p + j) hpl hlt (by omega))
      rw [List.pairwise_append]
      refine ⟨hms.sublist (List.take_sublist _ _), List.pairwise_cons.2 ⟨hafter, hms.sublist (List.drop_sublist _ _)⟩, fun a ha b hb => ?_⟩
      rcases List.mem_cons.1 hb with rfl | hb
      · exact hbefore a ha
      · exact fst0_trans (hbefore a ha) (hafter b hb)
    · rcases (hmem y).1 hy with rfl | hy
      · exact ⟨.inr rfl, fun z hz hzx => by
          rcases hz with hz | hz
          · exact (hxm z hz hzx).elim
          · exact hz⟩
      · obtain ⟨h1, h2⟩ := (hmm y).1 hy
        obtain ⟨h3, h4⟩ := (h.mem y).1 h1
        exact ⟨.inl h3, fun z hz hzy => by
          rcases hz with hz | rfl
          · exact h4 z hz hzy
          · rw [h2] at hzy; cases hzy⟩
    · obtain ⟨h1, h2⟩ := hy
      refine (hmem y).2 ?_
      rcases h1 with h1 | h1
      · by_cases hxy : bel 0 x y = true
        · exact .inl (h2 x (.inr rfl) hxy).symm
        · exact .inr ((hmm y).2 ⟨(h.mem y).2 ⟨h1, fun z hz => h2 z (.inl hz)⟩, by simpa using hxy⟩)
      · exact .inl h1
    · rcases hz with hz | rfl
      · obtain ⟨y, hy, hyz⟩ := h.cover z hz
        by_cases hxy : bel 0 x y = true
        · exact ⟨x, (hmem x).2 (.inl rfl), bel0_trans hxy hyz⟩
        · exact ⟨y, (hmem y).2 (.inr ((hmm y).2 ⟨hy, by simpa using hxy⟩)), hyz⟩
      · exact ⟨z, (hmem z).2 (.inl rfl), bel0_refl z⟩
theorem good_join (xs : List S35) {S : S35 → Prop} {l : List S35} (h : Good S l) : Good (fun y => S y ∨ y ∈ xs) (joinL (bel 0) (fst 0) xs l) := by
  induction xs generalizing S l with
  | nil => exact h.same (fun y => by simp)
  | cons x xs ih =>
    have := ih (h.insert x)
    exact this.same (fun y => by simp [or_assoc])
theorem good_join0 (xs : List S35) : Good (fun y => y ∈ xs) (joinL (bel 0) (fst 0) xs []) := (good_join xs Good.nil).same (fun y => by simp)
theorem sorted_eq : ∀ {l m : List S35}, l.Pairwise (fun x y => fst 0 x y = true) → m.Pairwise (fun x y => fst 0 x y = true) → (∀ y, y ∈ l ↔ y ∈ m) → l = m
  | [], [], _, _, _ => rfl
  | [], b :: m, _, _, h => absurd ((h b).2 (List.mem_cons_self ..)) (by simp)
  | a :: l, [], _, _, h => absurd ((h a).1 (List.mem_cons_self ..)) (by simp)
  | a :: l, b :: m, hl, hm, h => by
    obtain ⟨hl1, hl2⟩ := List.pairwise_cons.1 hl
    obtain ⟨hm1, hm2⟩ := List.pairwise_cons.1 hm
    have hab : a = b := by
      rcases List.mem_cons.1 ((h a).1 (List.mem_cons_self ..)) with e | e
      · exact e
      · rcases List.mem_cons.1 ((h b).2 (List.mem_cons_self ..)) with e2 | e2
        · exact e2.symm
        · exact absurd (fst0_trans (hm1 a e) (hl1 b e2)) (fst0_irrefl b)
    subst hab
    have : l = m := sorted_eq hl2 hm2 fun y => by
      constructor
      · intro hy
        rcases List.mem_cons.1 ((h y).1 (List.mem_cons_of_mem _ hy)) with e | e
        · subst e; exact absurd (hl1 y hy) (fst0_irrefl y)
        · exact e
      · intro hy
        rcases List.mem_cons.1 ((h y).2 (List.mem_cons_of_mem _ hy)) with e | e
        · subst e; exact absurd (hm1 y hy) (fst0_irrefl y)
        · exact e
    rw [this]
theorem Good.unique {S T : S35 → Prop} {l m : List S35} (h : Good S l) (k : Good T m) (e : ∀ y, S y ↔ T y) : l = m := by
  have k2 := k.same (fun y => (e y).symm)
  exact sorted_eq h.sorted k2.sorted fun y => by rw [h.mem, k2.mem]
end CP
end Go.Proofs.Ythchppnfffllnaa
