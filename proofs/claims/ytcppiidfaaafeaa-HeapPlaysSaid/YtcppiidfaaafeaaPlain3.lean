/- A heap by a key holds its order; what is popped is the first of the least. -/
import Derived.Test.YtcppiidfaaafeaaPlain2
set_option linter.unusedVariables false
set_option linter.unusedSimpArgs false
namespace Go.Proofs.Ytcppiidfaaafeaa
namespace Pl
variable {T : Type}

theorem swap_perm (l : List (Th T)) (i k : Nat) : (swap l i k).Perm l := by
  unfold swap
  split
  · rename_i a b h1 h2
    obtain ⟨hi, rfl⟩ := List.getElem?_eq_some_iff.1 h1
    obtain ⟨hk, rfl⟩ := List.getElem?_eq_some_iff.1 h2
    exact List.set_set_perm hi hk
  · exact List.Perm.refl _
theorem swap_get (l : List (Th T)) (i k : Nat) (hi : i < l.length) (hk : k < l.length) (j : Nat) :
    (swap l i k)[j]? = if j = k then l[i]? else if j = i then l[k]? else l[j]? := by
  rw [swap_eq l i k hi hk]
  by_cases h1 : j = k
  · subst h1; simp [hk, hi, List.getElem?_set]
  · rw [if_neg h1, List.getElem?_set_ne (fun e => h1 e.symm)]
    by_cases h2 : j = i
    · subst h2; simp [hi, hk]
    · rw [if_neg h2, List.getElem?_set_ne (fun e => h2 e.symm)]

theorem up_perm (lt : T → T → Bool) : ∀ (i : Nat) (l : List (Th T)), (up lt l i).Perm l := by
  intro i
  induction i using Nat.strongRecOn with
  | _ i ih =>
    intro l
    rw [up]
    split
    · rename_i h
      split
      · split
        · exact (ih _ (by omega) _).trans (swap_perm _ _ _)
        · exact List.Perm.refl _
      · exact List.Perm.refl _
    · exact List.Perm.refl _
theorem down_perm (lt : T → T → Bool) : ∀ (d : Nat) (i : Nat) (l : List (Th T)), l.length - i = d → (down lt l i).Perm l := by
  intro d
  induction d using Nat.strongRecOn with
  | _ d ih =>
    intro i l hd
    rw [down]
    split
    · rename_i h
      split
      · split
        · have hk := kid_cases lt l (2 * i + 1)
          exact (ih _ (by subst hd; rw [swap_length]; omega) _ _ rfl).trans (swap_perm _ _ _)
        · exact List.Perm.refl _
      · exact List.Perm.refl _
    · exact List.Perm.refl _
theorem push_perm (lt : T → T → Bool) (l : List (Th T)) (x : T) (no : Int) : (push lt l x no).Perm (l ++ [⟨x, no⟩]) := up_perm lt _ _
theorem push_length (lt : T → T → Bool) (l : List (Th T)) (x : T) (no : Int) : (push lt l x no).length = l.length + 1 := by
  rw [(push_perm lt l x no).length_eq]; simp
/-- What is put over the first. -/
theorem cut_perm (l : List (Th T)) (a : Th T) (h : l.getLast? = some a) (h0 : 0 < l.length) : l.Perm (l[0] :: (l.set 0 a).take (l.length - 1)) := by
  cases l with
  | nil => simp at h0
  | cons x t =>
    rcases List.eq_nil_or_concat t with rfl | ⟨m, b, rfl⟩
    · simp
    · have : b = a := by
        have : (x :: (m ++ [b])).getLast? = some b := by rw [List.getLast?_cons]; simp
        simpa [this] using h
      subst this
      simp
theorem rest_perm (lt : T → T → Bool) (l : List (Th T)) (h0 : 0 < l.length) : l.Perm (l[0] :: rest lt l) := by
  unfold rest
  have : l.getLast? = some (l[l.length - 1]'(by omega)) := by rw [List.getLast?_eq_getElem?, List.getElem?_eq_getElem]
  rw [this]
  exact (cut_perm l _ this h0).trans (List.Perm.cons _ (down_perm lt _ _ _ rfl).symm)
theorem rest_length (lt : T → T → Bool) (l : List (Th T)) (h0 : 0 < l.length) : (rest lt l).length = l.length - 1 := by
  have := (rest_perm lt l h0).length_eq
  simp at this; omega

/-! ### An order by a key -/
variable (key : T → Int)
def byKey : T → T → Bool := fun a b => decide (key a < key b)
def lex (x y : Th T) : Prop := key x.v < key y.v ∨ (key x.v = key y.v ∧ x.no < y.no)
theorem aheadT_iff (x y : Th T) : aheadT (byKey key) x y = true ↔ lex key x y := by
  unfold aheadT byKey lex
  simp
  omega
theorem aheadT_not (x y : Th T) : aheadT (byKey key) x y = false ↔ ¬ lex key x y := by
  rw [← aheadT_iff]; simp

/-- No place of P comes ahead of its parent. -/
def Ok (l : List (Th T)) (P : Nat → Prop) : Prop := ∀ j a b, 0 < j → P j → l[j]? = some a → l[(j - 1) / 2]? = some b → ¬ lex key a b
def Hp (l : List (Th T)) : Prop := Ok key l (fun _ => True)

theorem up_hp : ∀ (i : Nat) (l : List (Th T)), i < l.length → Ok key l (fun j => j ≠ i) →
    (∀ j a b, 0 < i → 0 < j → (j - 1) / 2 = i → l[j]? = some a → l[(i - 1) / 2]? = some b → ¬ lex key a b) → Hp key (up (byKey key) l i) := by
  intro i
  induction i using Nat.strongRecOn with
  | _ i ih =>
    intro l hi hok hch
    by_cases h0 : i = 0
    · subst h0
      rw [up_zero]
      intro j a b hj _ ha hb
      exact hok j a b hj (by omega) ha hb
    · have hp : (i - 1) / 2 < l.length := by omega
      cases h : aheadT (byKey key) l[i] l[(i - 1) / 2] with
      | false =>
        rw [up_stop' _ _ i _ rfl hi hp h]
        intro j a b hj _ ha hb
        by_cases hji : j = i
        · subst hji
          rw [List.getElem?_eq_getElem hi] at ha
          rw [List.getElem?_eq_getElem hp] at hb
          cases ha; cases hb
          exact (aheadT_not key _ _).1 h
        · exact hok j a b hj hji ha hb
      | true =>
        have hlex := (aheadT_iff key _ _).1 h
        rw [up_step' _ _ i _ rfl (by omega) hi hp h, ← swap_eq l i _ hi hp]
        have hgi : l[i]? = some l[i] := List.getElem?_eq_getElem hi
        have hgp : l[(i - 1) / 2]? = some l[(i - 1) / 2] := List.getElem?_eq_getElem hp
        refine ih _ (by omega) _ (by rw [swap_length]; exact hp) ?_ ?_
        · intro j a b hj hne ha hb
          rw [swap_get l i _ hi hp] at ha hb
          rw [if_neg hne] at ha
          by_cases hji : j = i
          · subst hji
            rw [if_pos rfl] at ha hb
            rw [hgp] at ha; rw [hgi] at hb
            cases ha; cases hb
            unfold lex at hlex ⊢; omega
          · rw [if_neg hji] at ha
            by_cases hpj : (j - 1) / 2 = (i - 1) / 2
            · rw [if_pos hpj, hgi] at hb
              cases hb
              have := hok j a _ hj hji ha (by rw [hpj]; exact hgp)
              unfold lex at hlex this ⊢; omega
            · rw [if_neg hpj] at hb
              by_cases hpi : (j - 1) / 2 = i
              · rw [if_pos hpi, hgp] at hb
                cases hb
                exact hch j a _ (by omega) hj hpi ha hgp
              · rw [if_neg hpi] at hb
                exact hok j a b hj hji ha hb
        · intro j a b hpos hj hpj ha hb
          rw [swap_get l i _ hi hp] at ha hb
          rw [if_neg (by omega), if_neg (by omega)] at hb
          by_cases hji : j = i
          · subst hji
            rw [if_neg (by omega), if_pos rfl, hgp] at ha
            cases ha
            exact hok _ _ b hpos (by omega) hgp hb
          · rw [if_neg (by omega), if_neg hji] at ha
            have h1 := hok j a _ hj hji ha (by rw [hpj]; exact hgp)
            have h2 := hok _ _ b hpos (by omega) hgp hb
            unfold lex at h1 h2 ⊢; omega

theorem push_hp (l : List (Th T)) (x : T) (no : Int) (h : Hp key l) : Hp key (push (byKey key) l x no) := by
  unfold push
  refine up_hp key _ _ (by simp) ?_ ?_
  · intro j a b hj hne ha hb
    have hjl : j < l.length := by
      have := (List.getElem?_eq_some_iff.1 ha).1
      simp at this; omega
    rw [List.getElem?_append_left hjl] at ha
    rw [List.getElem?_append_left (by omega)] at hb
    exact h j a b hj trivial ha hb
  · intro j a b _ hj hpj ha _
    have := (List.getElem?_eq_some_iff.1 ha).1
    simp at this; omega

theorem kid_at (lt : T → T → Bool) (l : List (Th T)) (k : Nat) (hk : k < l.length) : kid lt l k < l.length := by
  rcases kid_cases lt l k with h | h <;> omega

theorem down_hp : ∀ (d : Nat) (i : Nat) (l : List (Th T)), l.length - i = d → Ok key l (fun j => (j - 1) / 2 ≠ i) →
    (∀ j a b, 0 < i → 0 < j → (j - 1) / 2 = i → l[j]? = some a → l[(i - 1) / 2]? = some b → ¬ lex key a b) → Hp key (down (byKey key) l i) := by
  intro d
  induction d using Nat.strongRecOn with
  | _ d ih =>
    intro i l hd hok hch
    by_cases h0 : 2 * i + 1 < l.length
    · obtain ⟨k, hk⟩ : ∃ k, kid (byKey key) l (2 * i + 1) = k := ⟨_, rfl⟩
      have hkc := kid_cases (byKey key) l (2 * i + 1)
      rw [hk] at hkc
      have hkl : k < l.length := by rcases hkc with h | h <;> omega
      have hil : i < l.length := by omega
      have hgi : l[i]? = some l[i] := List.getElem?_eq_getElem hil
      have hgk : l[k]? = some l[k] := List.getElem?_eq_getElem hkl
      -- k is a child of i, and the first one
      have hpk : (k - 1) / 2 = i := by rcases hkc with h | h <;> omega
      have hbest : ∀ j a, 0 < j → (j - 1) / 2 = i → l[j]? = some a → j ≠ k → ¬ lex key a l[k] := by
        intro j a hj hpj ha hjk
        have hjl := (List.getElem?_eq_some_iff.1 ha).1
        have hja := (List.getElem?_eq_some_iff.1 ha).2
        by_cases h2 : 2 * i + 1 + 1 < l.length
        · rw [kid_yes _ _ _ h2] at hk
          cases hA : aheadT (byKey key) l[2 * i + 1 + 1] l[2 * i + 1] with
          | true =>
            rw [hA] at hk
            simp at hk
            subst hk
            have hj1 : j = 2 * i + 1 := by omega
            subst hj1
            have := (aheadT_iff key _ _).1 hA
            rw [← hja]
            unfold lex at this ⊢; omega
          | false =>
            rw [hA] at hk
            simp at hk
            subst hk
            have hj1 : j = 2 * i + 1 + 1 := by omega
            subst hj1
            have := (aheadT_not key _ _).1 hA
            rw [← hja]
            exact this
        · rw [kid_no _ _ _ h2] at hk
          omega
      cases h : aheadT (byKey key) l[k] l[i] with
      | false =>
        rw [down_stop' _ _ i k hk hkl hil h]
        have hno := (aheadT_not key _ _).1 h
        intro j a b hj _ ha hb
        by_cases hpj : (j - 1) / 2 = i
        · rw [hpj, hgi] at hb
          cases hb
          by_cases hjk : j = k
          · subst hjk; rw [hgk] at ha; cases ha; exact hno
          · have := hbest j a hj hpj ha hjk
            unfold lex at hno this ⊢; omega
        · exact hok j a b hj hpj ha hb
      | true =>
        have hlex := (aheadT_iff key _ _).1 h
        rw [down_step' _ _ i k hk h0 hkl hil h, ← swap_eq l i k hil hkl]
        have hik : i < k := by rcases hkc with h | h <;> omega
        refine ih _ (by subst hd; rw [swap_length]; omega) k _ rfl ?_ ?_
        · intro j a b hj hne ha hb
          rw [swap_get l i k hil hkl] at ha hb
          rw [if_neg hne] at hb
          by_cases hjk : j = k
          · subst hjk
            rw [if_pos rfl, hgi] at ha
            rw [if_pos hpk, hgk] at hb
            cases ha; cases hb
            unfold lex at hlex ⊢; omega
          · rw [if_neg hjk] at ha
            by_cases hji : j = i
            · subst hji
              rw [if_pos rfl, hgk] at ha
              cases ha
              rw [if_neg (by omega)] at hb
              exact hch k _ b hj (by omega) hpk hgk hb
            · rw [if_neg hji] at ha
              by_cases hpj : (j - 1) / 2 = i
              · rw [if_pos hpj, hgk] at hb
                cases hb
                exact hbest j a hj hpj ha hjk
              · rw [if_neg hpj] at hb
                exact hok j a b hj hpj ha hb
        · intro j a b _ hj hpj ha hb
          rw [swap_get l i k hil hkl] at ha hb
          rw [hpk, if_neg (by omega), if_pos rfl, hgk] at hb
          cases hb
          rw [if_neg (by omega), if_neg (by omega)] at ha
          exact hok j a _ hj (by omega) ha (by rw [hpj]; exact hgk)
    · rw [down_end _ _ _ h0]
      intro j a b hj _ ha hb
      have := (List.getElem?_eq_some_iff.1 ha).1
      exact hok j a b hj (by omega) ha hb

theorem rest_hp (l : List (Th T)) (h : Hp key l) : Hp key (rest (byKey key) l) := by
  unfold rest
  split
  · refine down_hp key _ 0 _ rfl ?_ ?_
    · intro j a b hj hne ha hb
      rw [List.getElem?_take] at ha hb
      split at ha
      · rename_i h1
        rw [if_pos (by omega)] at hb
        rw [List.getElem?_set_ne (by omega)] at ha hb
        exact h j a b hj trivial ha hb
      · cases ha
    · intro j a b h0; omega
  · intro j a b _ _ ha; simp at ha

theorem top_le (l : List (Th T)) (h : Hp key l) (h0 : 0 < l.length) : ∀ (j : Nat) (a : Th T), l[j]? = some a → ¬ lex key a l[0] := by
  intro j
  induction j using Nat.strongRecOn with
  | _ j ih =>
    intro a ha
    by_cases hj : j = 0
    · subst hj
      rw [List.getElem?_eq_getElem h0] at ha
      cases ha
      unfold lex; omega
    · have hjl := (List.getElem?_eq_some_iff.1 ha).1
      have hp : (j - 1) / 2 < l.length := by omega
      have h1 := h j a _ (by omega) trivial ha (List.getElem?_eq_getElem hp)
      have h2 := ih _ (by omega) _ (List.getElem?_eq_getElem hp)
      unfold lex at h1 h2 ⊢; omega

/-- The first of those ahead of which no other one comes. -/
def FirstMin (L : List T) (k : Nat) : Prop := k < L.length ∧ ∀ j a b, L[j]? = some a → L[k]? = some b → (j < k → key b < key a) ∧ (k ≤ j → key b ≤ key a)

/-- The heap l holds what R holds, in the order of pushing. -/
structure Holds (l R : List (Th T)) (nx : Int) : Prop where
  hp : Hp key l
  perm : l.Perm R
  inc : R.Pairwise (fun x y => x.no < y.no)
  below : ∀ x ∈ R, x.no < nx

theorem holds_nil (nx : Int) : Holds key ([] : List (Th T)) [] nx := ⟨fun j a b _ _ h => by simp at h, List.Perm.refl _, List.Pairwise.nil, fun x h => by simp at h⟩
theorem Holds.push {l R : List (Th T)} {nx : Int} (h : Holds key l R nx) (x : T) : Holds key (push (byKey key) l x nx) (R ++ [⟨x, nx⟩]) (nx + 1) := by
  refine ⟨push_hp key _ _ _ h.hp, (push_perm _ _ _ _).trans (h.perm.append_right _), ?_, ?_⟩
  · rw [List.pairwise_append]
    refine ⟨h.inc, by simp, ?_⟩
    intro a ha b hb
    simp at hb; subst hb
    exact h.below a ha
  · intro y hy
    rcases List.mem_append.1 hy with hy | hy
    · have := h.below y hy; omega
    · simp at hy; subst hy; simp; omega
theorem Holds.pop {l R : List (Th T)} {nx : Int} (h : Holds key l R nx) (h0 : 0 < l.length) :
    ∃ k, ∃ hk : k < R.length, l[0] = R[k] ∧ FirstMin key (R.map (·.v)) k ∧ Holds key (rest (byKey key) l) (R.eraseIdx k) nx := by
  have hmem : l[0] ∈ R := h.perm.mem_iff.1 (List.getElem_mem h0)
  obtain ⟨k, hk, hkR⟩ := List.getElem_of_mem hmem
  refine ⟨k, hk, hkR.symm, ⟨by simpa using hk, ?_⟩, ⟨rest_hp key _ h.hp, ?_, ?_, ?_⟩⟩
  · intro j a b ha hb
    rw [List.getElem?_map] at ha hb
    obtain ⟨x, hx, rfl⟩ := Option.map_eq_some_iff.1 ha
    obtain ⟨y, hy, rfl⟩ := Option.map_eq_some_iff.1 hb
    rw [List.getElem?_eq_getElem hk] at hy
    cases hy
    obtain ⟨hj, hxj⟩ := List.getElem?_eq_some_iff.1 hx
    have hxl : x ∈ l := h.perm.mem_iff.2 (hxj ▸ List.getElem_mem hj)
    obtain ⟨j', hj', hxl'⟩ := List.getElem_of_mem hxl
    have hle := top_le key l h.hp h0 j' x (by rw [List.getElem?_eq_getElem hj', hxl'])
    rw [← hkR] at hle
    constructor
    · intro hjk
      have := List.pairwise_iff_getElem.1 h.inc j k hj hk hjk
      rw [hxj] at this
      unfold lex at hle; omega
    · intro hkj
      rcases Nat.lt_or_eq_of_le hkj with hkj | rfl
      · have := List.pairwise_iff_getElem.1 h.inc k j hk hj hkj
        rw [hxj] at this
        unfold lex at hle; omega
      · rw [← hxj]; omega
  · have p1 := rest_perm (byKey key) l h0
    have p2 : R.Perm (R[k] :: R.eraseIdx k) := by
      rw [List.eraseIdx_eq_take_drop_succ]
      refine List.Perm.trans (List.Perm.of_eq ?_) List.perm_middle
      rw [← List.drop_eq_getElem_cons hk, List.take_append_drop]
    rw [← hkR] at p1
    exact List.Perm.cons_inv ((p1.symm.trans h.perm).trans p2)
  · exact h.inc.sublist (List.eraseIdx_sublist R k)
  · intro x hx
    exact h.below x ((List.eraseIdx_sublist R k).subset hx)
end Pl
end Go.Proofs.Ytcppiidfaaafeaa
