/- The codes, as plain functions of lists; what the printed contracts compute is these. -/
import Derived.Test.YtfbejjobejdenaaPCodeSaysx6
set_option linter.unusedVariables false
set_option linter.unusedSimpArgs false
namespace Go.Proofs.Ytfbejjobejdenaa.PCodeSays
open Go.RowKit Go.Proofs.YtfbejjobejdenaaW.PrintWords Go.Proofs.YtfbejjobejdenaaW.PrintLast Go.Proofs.YtfbejjobejdenaaW.PrintMore
def may (kind : Int) (x : S29) : Bool :=
  (if kind = 3 then decide (21 ≤ x.f0 ∧ x.f0 ≤ 28) else decide (1 ≤ x.f0 ∧ x.f0 ≤ 10)) &&
  (if x.f0 = 3 then x.f1 != 0 else if x.f0 = 7 ∨ x.f0 = 8 ∨ x.f0 = 28 then x.f1 == 0 else true)
def chkL (kind : Int) (l : List S29) : Int := if l.all (may kind) then 0 else 24
def chk (kind : Int) (l : List S29) : Int := if kind = 2 ∨ kind = 3 then (if 16 < l.length then 2 else chkL kind l) else 20
theorem may_f (k : Nat) (kind : Int) (x : S29) : code_may.f (k + 2) kind x.f0 x.f1 = some (may kind x) := by
  have ne : ∀ a : Int, (a != 0) = !(a == 0) := fun a => rfl
  by_cases hk : kind = 3
  · simp only [code_may.f, code_may.j0, code_may.j1, hk, if_true, may]
    by_cases h1 : x.f0 < 21
    · simp [h1]; omega
    · by_cases h2 : x.f0 > 28
      · simp [h1, h2]; omega
      · have : (21 ≤ x.f0 ∧ x.f0 ≤ 28) := by omega
        simp only [h1, h2, if_false, decide_false, this, and_self, decide_true, Bool.true_and, Bool.false_eq_true]
        by_cases e3 : x.f0 = 3
        · omega
        · by_cases e7 : x.f0 = 7
          · omega
          · by_cases e8 : x.f0 = 8
            · omega
            · by_cases e28 : x.f0 = 28
              · simp [e28]
              · simp [e3, e7, e8, e28]
  · simp only [code_may.f, code_may.j0, code_may.j1, hk, if_false, may]
    by_cases h1 : x.f0 < 1
    · simp [h1]; omega
    · by_cases h2 : x.f0 > 10
      · simp [h1, h2]; omega
      · have : (1 ≤ x.f0 ∧ x.f0 ≤ 10) := by omega
        simp only [h1, h2, if_false, decide_false, this, and_self, decide_true, Bool.true_and, Bool.false_eq_true]
        by_cases e3 : x.f0 = 3
        · simp [e3]
        · by_cases e7 : x.f0 = 7
          · simp [e7]
          · by_cases e8 : x.f0 = 8
            · simp [e8]
            · by_cases e28 : x.f0 = 28
              · omega
              · simp [e3, e7, e8, e28]
theorem rd_get (l : List S29) (i : Nat) (h : i < l.length) : rd_T29 l (i : Int) = l[i] := by simp [rd_T29, List.getD, h]
theorem w64 {i : Nat} (h : i < 9223372036854775807) : wrap64 ((i : Int) + 1) = ((i + 1 : Nat) : Int) := by
  unfold wrap64; omega
theorem check_l (kind : Int) (l : List S29) (hl : l.length ≤ 16) : ∀ (m i k : Nat), i + m = l.length → m + 3 ≤ k → code_Check.l0 k kind l (l.length : Int) i = some (chkL kind (l.drop i)) := by
  intro m
  induction m with
  | zero =>
    intro i k hi hk
    obtain ⟨k, rfl⟩ : ∃ q, k = q + 1 := ⟨k - 1, by omega⟩
    rw [code_Check.l0, if_neg (by omega), List.drop_of_length_le (by omega)]
    rfl
  | succ m ih =>
    intro i k hi hk
    obtain ⟨k, rfl⟩ : ∃ q, k = q + 1 := ⟨k - 1, by omega⟩
    have hil : i < l.length := by omega
    rw [code_Check.l0, if_pos (by omega), if_pos (by omega), if_pos (by omega), rd_get l i hil]
    obtain ⟨q, rfl⟩ : ∃ q, k = q + 2 := ⟨k - 2, by omega⟩
    rw [may_f, Option.bind_some, w64 (by omega), ih (i + 1) (q + 2) (by omega) (by omega), List.drop_eq_getElem_cons hil]
    simp only [chkL, List.all_cons]
    by_cases hb : may kind l[i] = true <;> simp [hb]
theorem check_f (kind : Int) (l : List S29) : code_Check.f 20 kind l = some (chk kind l) := by
  have key : ∀ b : Bool, code_Check.j0 20 kind l b = some (if b = true then 20 else if 16 < l.length then 2 else chkL kind l) := by
    intro b
    rw [code_Check.j0]
    cases b
    · simp only [Bool.false_eq_true, if_false]
      by_cases h : 16 < l.length
      · rw [if_pos (by omega), if_pos h]
      · rw [if_neg (by omega), if_neg h]
        have := check_l kind l (by omega) l.length 0 19 (by omega) (by omega)
        simpa using this
    · simp
  unfold code_Check.f chk
  rw [key, key]
  by_cases h2 : kind = 2
  · simp [h2]
  · by_cases h3 : kind = 3
    · simp [h3]
    · simp [h2, h3]
theorem rmay_l (kind : Int) (l : List S29) (hl : l.length ≤ 16) : ∀ (m i k : Nat), i + m = l.length → m * 4 + 1 ≤ k → sluiceref20_Check.l0 k kind l (l.length : Int) i = some (chkL kind (l.drop i)) := by
  intro m
  induction m with
  | zero =>
    intro i k hi hk
    obtain ⟨k, rfl⟩ : ∃ q, k = q + 1 := ⟨k - 1, by omega⟩
    rw [sluiceref20_Check.l0, if_neg (by omega), List.drop_of_length_le (by omega)]
    rfl
  | succ m ih =>
    intro i k hi hk
    obtain ⟨q, rfl⟩ : ∃ q, k = q + 4 := ⟨k - 4, by omega⟩
    have hil : i < l.length := by omega
    have hd : l.drop i = l[i] :: l.drop (i + 1) := List.drop_eq_getElem_cons hil
    have hr := ih (i + 1) q (by omega) (by omega)
    have he : chkL kind (l.drop i) = if may kind l[i] = true then chkL kind (l.drop (i + 1)) else 24 := by
      rw [hd]; simp only [chkL, List.all_cons]; by_cases hb : may kind l[i] = true <;> simp [hb]
    rw [he]
    rw [sluiceref20_Check.l0, if_pos (by omega), if_pos (by omega), if_pos (by omega), rd_get l i hil]
    generalize l[i] = x at *
    simp only [sluiceref20_Check.j2, sluiceref20_Check.j3, sluiceref20_Check.j4, w64 (show i < 9223372036854775807 by omega), hr]
    unfold may
    by_cases hk3 : kind = 3
    · simp only [hk3, if_true]
      by_cases h1 : x.f0 < 21
      · have : ¬ (21 ≤ x.f0 ∧ x.f0 ≤ 28) := by omega
        simp [h1, this]
      · by_cases h2 : x.f0 > 28
        · have : ¬ (21 ≤ x.f0 ∧ x.f0 ≤ 28) := by omega
          simp [h1, h2, this]
        · have h3 : (21 ≤ x.f0 ∧ x.f0 ≤ 28) := by omega
          have e3 : ¬ x.f0 = 3 := by omega
          have e7 : ¬ x.f0 = 7 := by omega
          have e8 : ¬ x.f0 = 8 := by omega
          simp only [h1, h2, e3, e7, e8, if_false, decide_false, h3, and_self, decide_true, Bool.true_and, Bool.false_eq_true, false_or]
          by_cases e28 : x.f0 = 28
          · simp only [e28, if_true, beq_iff_eq]; split <;> rfl
          · simp [e28]
    · simp only [hk3, if_false]
      by_cases h1 : x.f0 < 1
      · have : ¬ (1 ≤ x.f0 ∧ x.f0 ≤ 10) := by omega
        simp [h1, this]
      · by_cases h2 : x.f0 > 10
        · have : ¬ (1 ≤ x.f0 ∧ x.f0 ≤ 10) := by omega
          simp [h1, h2, this]
        · have h3 : (1 ≤ x.f0 ∧ x.f0 ≤ 10) := by omega
          have e28 : ¬ x.f0 = 28 := by omega
          simp only [h1, h2, e28, if_false, decide_false, h3, and_self, decide_true, Bool.true_and, Bool.false_eq_true, or_false]
          by_cases e3 : x.f0 = 3
          · cases hz : (x.f1 == 0) <;> simp [e3, hz, bne]
          · by_cases e7 : x.f0 = 7
            · simp [e7]; split <;> rfl
            · by_cases e8 : x.f0 = 8
              · simp [e8]; split <;> rfl
              · simp [e3, e7, e8]
theorem rcheck_f (kind : Int) (l : List S29) : sluiceref20_Check.f 70 kind l = some (chk kind l) := by
  have key : ∀ b : Bool, sluiceref20_Check.j0 70 kind l b = some (if b = true then 20 else if 16 < l.length then 2 else chkL kind l) := by
    intro b
    rw [sluiceref20_Check.j0]
    cases b
    · simp only [Bool.false_eq_true, if_false]
      by_cases h : 16 < l.length
      · rw [if_pos (by omega), if_pos h]
      · rw [if_neg (by omega), if_neg h]
        have := rmay_l kind l (by omega) l.length 0 69 (by omega) (by omega)
        simpa using this
    · simp
  unfold sluiceref20_Check.f chk
  rw [key, key]
  by_cases h2 : kind = 2
  · simp [h2]
  · by_cases h3 : kind = 3
    · simp [h3]
    · simp [h2, h3]
/-- What an instruction of a map makes of a record. -/
def act (x : S29) (r : Int × Int) : Int × Int :=
  if x.f0 = 1 then (x.f1, r.2) else if x.f0 = 2 then (IntKind.u64.wrap (r.1 + x.f1), r.2) else if x.f0 = 3 then (Int.tmod r.1 x.f1, r.2)
  else if x.f0 = 4 then (r.1, x.f1) else if x.f0 = 5 then (r.1, IntKind.u64.wrap (r.2 + x.f1)) else if x.f0 = 6 then (r.1, IntKind.u64.wrap (r.2 * x.f1))
  else if x.f0 = 7 then (r.2, r.1) else if x.f0 = 8 then (r.1, IntKind.u64.wrap (r.2 + r.1)) else if x.f0 = 9 then (IntKind.u64.wrap (r.1 + x.f1), IntKind.u64.wrap (r.2 + x.f1)) else (x.f1, x.f1)
theorem may2 {x : S29} (h : may 2 x = true) : 1 ≤ x.f0 ∧ x.f0 ≤ 10 ∧ (x.f0 = 3 → x.f1 ≠ 0) := by
  unfold may at h
  simp only [Bool.and_eq_true] at h
  obtain ⟨h1, h2⟩ := h
  simp at h1
  refine ⟨h1.1, h1.2, fun e => ?_⟩
  rw [if_pos e] at h2
  simpa [bne] using h2
theorem does_f {x : S29} (h : may 2 x = true) (r : Int × Int) : code_does.f x.f0 x.f1 r.1 r.2 = some (act x r) := by
  obtain ⟨a, b, c⟩ := may2 h
  obtain ⟨k, n⟩ := x
  simp only at a b c
  have : k = 1 ∨ k = 2 ∨ k = 3 ∨ k = 4 ∨ k = 5 ∨ k = 6 ∨ k = 7 ∨ k = 8 ∨ k = 9 ∨ k = 10 := by omega
  rcases this with rfl | rfl | rfl | rfl | rfl | rfl | rfl | rfl | rfl | rfl
  all_goals simp [code_does.f, act]
  exact c rfl
theorem one_f {x : S29} (h : may 2 x = true) (r : Int × Int) : sluiceref20_one.f x.f0 x.f1 r.1 r.2 = some (act x r) := by
  obtain ⟨a, b, c⟩ := may2 h
  obtain ⟨k, n⟩ := x
  simp only at a b c
  have : k = 1 ∨ k = 2 ∨ k = 3 ∨ k = 4 ∨ k = 5 ∨ k = 6 ∨ k = 7 ∨ k = 8 ∨ k = 9 ∨ k = 10 := by omega
  rcases this with rfl | rfl | rfl | rfl | rfl | rfl | rfl | rfl | rfl | rfl
  all_goals simp [sluiceref20_one.f, act]
  exact c rfl
def acts (l : List S29) (r : Int × Int) : Int × Int := l.foldl (fun r x => act x r) r
def mapP (l : List S29) (r : Int × Int) : Int × Int := if chk 2 l = 0 then acts l r else r
theorem chk_zero {kind : Int} {l : List S29} : chk kind l = 0 ↔ (kind = 2 ∨ kind = 3) ∧ l.length ≤ 16 ∧ ∀ x ∈ l, may kind x = true := by
  unfold chk chkL
  by_cases h : kind = 2 ∨ kind = 3
  · rw [if_pos h]
    by_cases h2 : 16 < l.length
    · rw [if_pos h2]
      constructor
      · intro h; omega
      · intro h; omega
    · rw [if_neg h2]
      by_cases h3 : l.all (may kind) = true
      · rw [if_pos h3]
        simp only [true_iff]
        exact ⟨h, by omega, List.all_eq_true.1 h3⟩
      · rw [if_neg h3]
        constructor
        · intro h; omega
        · intro h; exact absurd (List.all_eq_true.2 h.2.2) h3
  · rw [if_neg h]
    constructor
    · intro h; omega
    · intro h'; exact absurd h'.1 h
theorem map_l (l : List S29) (hl : l.length ≤ 16) (hm : ∀ x ∈ l, may 2 x = true) : ∀ (m i k : Nat) (r : Int × Int), i + m = l.length → m + 1 ≤ k → code_Map.l0 k l (l.length : Int) i r.1 r.2 = some (acts (l.drop i) r) := by
  intro m
  induction m with
  | zero =>
    intro i k r hi hk
    obtain ⟨k, rfl⟩ : ∃ q, k = q + 1 := ⟨k - 1, by omega⟩
    rw [code_Map.l0, if_neg (by omega), List.drop_of_length_le (by omega)]
    rfl
  | succ m ih =>
    intro i k r hi hk
    obtain ⟨k, rfl⟩ : ∃ q, k = q + 1 := ⟨k - 1, by omega⟩
    have hil : i < l.length := by omega
    rw [code_Map.l0, if_pos (by omega), if_pos (by omega), if_pos (by omega), rd_get l i hil, does_f (hm _ (List.getElem_mem hil)), Option.bind_some, w64 (by omega), ih (i + 1) k _ (by omega) (by omega), List.drop_eq_getElem_cons hil]
    rfl
theorem rmap_l (l : List S29) (hl : l.length ≤ 16) (hm : ∀ x ∈ l, may 2 x = true) : ∀ (m i k : Nat) (r : Int × Int), i + m = l.length → m + 1 ≤ k → sluiceref20_MapOf.l0 k l (l.length : Int) i r.1 r.2 = some (acts (l.drop i) r) := by
  intro m
  induction m with
  | zero =>
    intro i k r hi hk
    obtain ⟨k, rfl⟩ : ∃ q, k = q + 1 := ⟨k - 1, by omega⟩
    rw [sluiceref20_MapOf.l0, if_neg (by omega), List.drop_of_length_le (by omega)]
    rfl
  | succ m ih =>
    intro i k r hi hk
    obtain ⟨k, rfl⟩ : ∃ q, k = q + 1 := ⟨k - 1, by omega⟩
    have hil : i < l.length := by omega
    rw [sluiceref20_MapOf.l0, if_pos (by omega), if_pos (by omega), if_pos (by omega), rd_get l i hil, one_f (hm _ (List.getElem_mem hil)), Option.bind_some, w64 (by omega), ih (i + 1) k _ (by omega) (by omega), List.drop_eq_getElem_cons hil]
    rfl
theorem check_ge (kind : Int) (l : List S29) : ∀ k, code_Check.f (20 + k) kind l = some (chk kind l)
  | 0 => check_f kind l
  | k + 1 => code_Check.mono kind l (20 + k) _ (check_ge kind l k)
theorem rcheck_ge (kind : Int) (l : List S29) : ∀ k, sluiceref20_Check.f (70 + k) kind l = some (chk kind l)
  | 0 => rcheck_f kind l
  | k + 1 => sluiceref20_Check.mono kind l (70 + k) _ (rcheck_ge kind l k)
theorem map_f (l : List S29) (r : Int × Int) : code_Map.f 20 l r.1 r.2 = some (mapP l r) := by
  unfold code_Map.f mapP
  rw [check_f, Option.bind_some]
  by_cases h : chk 2 l = 0
  · rw [if_pos h, if_pos h]
    obtain ⟨_, h2, h3⟩ := chk_zero.1 h
    have := map_l l h2 h3 l.length 0 20 r (by omega) (by omega)
    simpa using this
  · rw [if_neg h, if_neg h]
theorem rmap_f (l : List S29) (r : Int × Int) : sluiceref20_MapOf.f 70 l r.1 r.2 = some (mapP l r) := by
  unfold sluiceref20_MapOf.f mapP
  rw [rcheck_f, Option.bind_some]
  by_cases h : chk 2 l = 0
  · rw [if_pos h, if_pos h]
    obtain ⟨_, h2, h3⟩ := chk_zero.1 h
    have := rmap_l l h2 h3 l.length 0 70 r (by omega) (by omega)
    simpa using this
  · rw [if_neg h, if_neg h]
/-- Does an instruction of a filter hold? -/
def hold (x : S29) (r : Int × Int) : Bool :=
  if x.f0 = 21 then r.1 == x.f1 else if x.f0 = 22 then r.1 != x.f1 else if x.f0 = 23 then decide (r.1 < x.f1) else if x.f0 = 24 then r.2 == x.f1 else if x.f0 = 25 then r.2 != x.f1
  else if x.f0 = 26 then decide (r.2 < x.f1) else if x.f0 = 27 then decide (r.1 < x.f1) && decide (r.2 < x.f1) else r.1 == r.2
theorem holds_f (x : S29) (r : Int × Int) : code_holds.f x.f0 x.f1 r.1 r.2 = some (hold x r) := by
  obtain ⟨k, n⟩ := x
  by_cases h27 : k = 27
  · subst h27
    by_cases h : r.1 < n
    · have : ¬ r.1 ≥ n := by omega
      simp [code_holds.f, hold, h, this]
    · have : r.1 ≥ n := by omega
      simp [code_holds.f, hold, h, this]
  · by_cases h26 : k = 26
    · subst h26; simp [code_holds.f, hold]
    · unfold code_holds.f hold
      simp only [h27, h26, if_false]
      repeat' (split; rfl)
      rfl
theorem rholds_f (x : S29) (r : Int × Int) : sluiceref20_holds.f x.f0 x.f1 r.1 r.2 = some (hold x r) := by
  obtain ⟨k, n⟩ := x
  by_cases h27 : k = 27
  · subst h27
    by_cases h : r.1 < n
    · simp [sluiceref20_holds.f, hold, h]
    · simp [sluiceref20_holds.f, hold, h]
  · unfold sluiceref20_holds.f hold
    simp only [h27, if_false]
    repeat' (split; rfl)
    rfl
def passP (l : List S29) (r : Int × Int) : Bool := if chk 3 l = 0 then l.all (hold · r) else false
theorem pass_l (l : List S29) (hl : l.length ≤ 16) : ∀ (m i k : Nat) (r : Int × Int), i + m = l.length → m + 1 ≤ k → code_Pass.l0 k l (l.length : Int) i r.1 r.2 = some ((l.drop i).all (hold · r)) := by
  intro m
  induction m with
  | zero =>
    intro i k r hi hk
    obtain ⟨k, rfl⟩ : ∃ q, k = q + 1 := ⟨k - 1, by omega⟩
    rw [code_Pass.l0, if_neg (by omega), List.drop_of_length_le (by omega)]
    rfl
  | succ m ih =>
    intro i k r hi hk
    obtain ⟨k, rfl⟩ : ∃ q, k = q + 1 := ⟨k - 1, by omega⟩
    have hil : i < l.length := by omega
    rw [code_Pass.l0, if_pos (by omega), if_pos (by omega), if_pos (by omega), rd_get l i hil, holds_f, Option.bind_some, w64 (by omega), ih (i + 1) k _ (by omega) (by omega), List.drop_eq_getElem_cons hil, List.all_cons]
    by_cases hb : hold l[i] r = true <;> simp [hb]
theorem rpass_l (l : List S29) (hl : l.length ≤ 16) : ∀ (m i k : Nat) (r : Int × Int), i + m = l.length → m + 1 ≤ k → sluiceref20_Pass.l0 k l (l.length : Int) i r.1 r.2 = some ((l.drop i).all (hold · r)) := by
  intro m
  induction m with
  | zero =>
    intro i k r hi hk
    obtain ⟨k, rfl⟩ : ∃ q, k = q + 1 := ⟨k - 1, by omega⟩
    rw [sluiceref20_Pass.l0, if_neg (by omega), List.drop_of_length_le (by omega)]
    rfl
  | succ m ih =>
    intro i k r hi hk
    obtain ⟨k, rfl⟩ : ∃ q, k = q + 1 := ⟨k - 1, by omega⟩
    have hil : i < l.length := by omega
    rw [sluiceref20_Pass.l0, if_pos (by omega), if_pos (by omega), if_pos (by omega), rd_get l i hil, rholds_f, Option.bind_some, w64 (by omega), ih (i + 1) k _ (by omega) (by omega), List.drop_eq_getElem_cons hil, List.all_cons]
    by_cases hb : hold l[i] r = true <;> simp [hb]
theorem pass_f (l : List S29) (r : Int × Int) : code_Pass.f 20 l r.1 r.2 = some (passP l r) := by
  unfold code_Pass.f passP
  rw [check_f, Option.bind_some]
  by_cases h : chk 3 l = 0
  · rw [if_pos h, if_pos h]
    obtain ⟨_, h2, h3⟩ := chk_zero.1 h
    have := pass_l l h2 l.length 0 20 r (by omega) (by omega)
    simpa using this
  · rw [if_neg h, if_neg h]
theorem rpass_f (l : List S29) (r : Int × Int) : sluiceref20_Pass.f 70 l r.1 r.2 = some (passP l r) := by
  unfold sluiceref20_Pass.f passP
  rw [rcheck_f, Option.bind_some]
  by_cases h : chk 3 l = 0
  · rw [if_pos h, if_pos h]
    obtain ⟨_, h2, h3⟩ := chk_zero.1 h
    have := rpass_l l h2 l.length 0 70 r (by omega) (by omega)
    simpa using this
  · rw [if_neg h, if_neg h]
theorem known_f : sluicelaw20_known.f 20 = some true := by
  unfold sluicelaw20_known.f
  rw [map_f _ (18446744073709551615, 1), pass_f _ (3, 4), pass_f _ (3, 4), check_f, check_f]
  decide
section
variable {w : World} {A : Option Addr} {c : Nat} {l : List S29}
theorem check_c (kind : Int) (hr : Kd.C k29 w A l.length l) (hc : l.length ≤ c) : Calls Try.prog 8 #[.int .i64 kind, .slice A l.length c] w fun e w' => e = .returned (.int .i64 (chk kind l)) ∧ Below w.heap.size w w' := code_Check.calls 20 kind A c l _ w hr hc (check_f kind l)
theorem rcheck_c (kind : Int) (hr : Kd.C k29 w A l.length l) (hc : l.length ≤ c) : Calls Try.prog 9 #[.int .i64 kind, .slice A l.length c] w fun e w' => e = .returned (.int .i64 (chk kind l)) ∧ Below w.heap.size w w' := sluiceref20_Check.calls 70 kind A c l _ w hr hc (rcheck_f kind l)
theorem map_c (a b : Int) (hr : Kd.C k29 w A l.length l) (hc : l.length ≤ c) : Calls Try.prog 10 #[.slice A l.length c, .agg #[.int .u64 a, .int .u64 b]] w fun e w' => e = .returned (.agg #[.int .u64 (mapP l (a, b)).1, .int .u64 (mapP l (a, b)).2]) ∧ Below w.heap.size w w' := code_Map.calls 20 A c l a b _ _ w hr hc (map_f l (a, b))
theorem rmap_c (a b : Int) (hr : Kd.C k29 w A l.length l) (hc : l.length ≤ c) : Calls Try.prog 11 #[.slice A l.length c, .agg #[.int .u64 a, .int .u64 b]] w fun e w' => e = .returned (.agg #[.int .u64 (mapP l (a, b)).1, .int .u64 (mapP l (a, b)).2]) ∧ Below w.heap.size w w' := sluiceref20_MapOf.calls 70 A c l a b _ _ w hr hc (rmap_f l (a, b))
theorem pass_c (a b : Int) (hr : Kd.C k29 w A l.length l) (hc : l.length ≤ c) : Calls Try.prog 12 #[.slice A l.length c, .agg #[.int .u64 a, .int .u64 b]] w fun e w' => e = .returned (.bool (passP l (a, b))) ∧ Below w.heap.size w w' := code_Pass.calls 20 A c l a b _ w hr hc (pass_f l (a, b))
theorem rpass_c (a b : Int) (hr : Kd.C k29 w A l.length l) (hc : l.length ≤ c) : Calls Try.prog 13 #[.slice A l.length c, .agg #[.int .u64 a, .int .u64 b]] w fun e w' => e = .returned (.bool (passP l (a, b))) ∧ Below w.heap.size w w' := sluiceref20_Pass.calls 70 A c l a b _ w hr hc (rpass_f l (a, b))
theorem known_c (w : World) : Calls Try.prog 15 #[] w fun e w' => e = .returned (.bool true) ∧ Below w.heap.size w w' := sluicelaw20_known.calls 20 true w known_f
end
end Go.Proofs.Ytfbejjobejdenaa.PCodeSays
