/- CodeSays: sameOps of two equal rows; a row that the law writes in place. -/
import Derived.Test.YtfbejjobejdenaaCJoins
set_option linter.unusedVariables false
set_option linter.unusedSimpArgs false
namespace Go.Proofs.Ytfbejjobejdenaa.PCodeSays
open Go.RowKit Go.Proofs.YtfbejjobejdenaaW.PrintWords Go.Proofs.YtfbejjobejdenaaW.PrintLast Go.Proofs.YtfbejjobejdenaaW.PrintMore
theorem same_l (l : List S29) (hl : l.length ≤ 9223372036854775807) : ∀ (m i k : Nat), i + m = l.length → m + 1 ≤ k → sluicelaw20_sameOps.l0 k l l (l.length : Int) i = some true := by
  intro m
  induction m with
  | zero =>
    intro i k hi hk
    obtain ⟨k, rfl⟩ : ∃ q, k = q + 1 := ⟨k - 1, by omega⟩
    rw [sluicelaw20_sameOps.l0, if_neg (by omega)]
  | succ m ih =>
    intro i k hi hk
    obtain ⟨k, rfl⟩ : ∃ q, k = q + 1 := ⟨k - 1, by omega⟩
    rw [sluicelaw20_sameOps.l0, if_pos (by omega), if_pos (by omega), if_pos (by omega), if_pos (by omega), w64 (by omega), ih (i + 1) k (by omega) (by omega)]
    simp
theorem same_f (l : List S29) (hl : l.length ≤ 9223372036854775807) : sluicelaw20_sameOps.f (l.length + 1) l l = some true := by
  unfold sluicelaw20_sameOps.f
  rw [if_pos rfl]
  have := same_l l hl l.length 0 (l.length + 1) (by omega) (by omega)
  simpa using this
theorem same_n {w : World} {A A' : Option Addr} {n c c' : Nat} {l : List S29} (hr : Row w A l) (hr' : Row w A' l) (hn : Hid (n = l.length)) (hc : n ≤ c) (hc' : n ≤ c') :
    Calls Try.prog 14 #[.slice A n c, .slice A' n c'] w fun e w' => e = .returned (.bool true) ∧ Below w.heap.size w w' := by
  obtain rfl := hn.out
  refine (sluicelaw20_sameOps.calls (l.length + 1) A c l A' c' l true w hr.C hc hr'.C hc' (same_f l hr.1)).mono ?_
  rintro e w' ⟨rfl, hd⟩
  exact ⟨rfl, hd.below⟩
theorem rcheck_n {w : World} {A : Option Addr} {n c : Nat} {l : List S29} {z : Int} (kind : Int) (hr : Row w A l) (hn : Hid (n = l.length)) (hc : n ≤ c) (h : chk kind l = z) : Calls Try.prog 9 #[.int .i64 kind, .slice A n c] w fun e w' => e = .returned (.int .i64 z) ∧ Below w.heap.size w w' := by
  obtain rfl := hn.out
  have := rcheck_c (w := w) kind hr.C hc
  rw [h] at this
  exact this
theorem rmap_n {w : World} {A : Option Addr} {n c : Nat} {l : List S29} {a b x y : Int} (hr : Row w A l) (hn : Hid (n = l.length)) (hc : n ≤ c) (h : mapP l (a, b) = (x, y)) : Calls Try.prog 11 #[.slice A n c, .agg #[.int .u64 a, .int .u64 b]] w fun e w' => e = .returned (.agg #[.int .u64 x, .int .u64 y]) ∧ Below w.heap.size w w' := by
  obtain rfl := hn.out
  have := rmap_c (w := w) a b hr.C hc
  rw [h] at this
  exact this
theorem rpass_n {w : World} {A : Option Addr} {n c : Nat} {l : List S29} {a b : Int} {x : Bool} (hr : Row w A l) (hn : Hid (n = l.length)) (hc : n ≤ c) (h : passP l (a, b) = x) : Calls Try.prog 13 #[.slice A n c, .agg #[.int .u64 a, .int .u64 b]] w fun e w' => e = .returned (.bool x) ∧ Below w.heap.size w w' := by
  obtain rfl := hn.out
  have := rpass_c (w := w) a b hr.C hc
  rw [h] at this
  exact this
/-- A row of the law's own, in block g: it reads as l. -/
def Inn (w : World) (g : Nat) (l : List S29) : Prop := ∃ cur : Array Value, w.heap[g]? = some (.cells cur 29 (0, 0)) ∧ ∀ (j : Nat) (u : Value), (flatS l)[j]? = some u → cur[j]? = some u
theorem Inn.of_own {w : World} {base c n : Nat} {A : Option Addr} {l : List S29} (h : w.ownsRow base 29 2 (.slice A n c) n (flatS l)) (hp : 0 < n) : ∃ g, A = some ⟨g, 0, none⟩ ∧ base ≤ g ∧ n ≤ c ∧ c ≤ maxLen ∧ Inn w g l := by
  rcases h.2 with ⟨hv, h0⟩ | ⟨g, cap, cur, hv, hg, hh, hc, hm, hs, ht⟩
  · omega
  · injection hv with h1 h2 h3
    subst h1; subst h3
    refine ⟨g, rfl, hg, hc, hm, cur, hh, fun j u hu => ?_⟩
    rw [← ht] at hu
    have := (List.getElem?_eq_some_iff.1 hu).1
    rw [List.getElem?_take_of_lt (by simp at this; omega)] at hu
    simpa using hu
theorem Inn.lt {w : World} {g : Nat} {l : List S29} (h : Inn w g l) : g < w.heap.size := by
  obtain ⟨cur, hh, _⟩ := h
  exact blk_lt hh
theorem Inn.below {w w' : World} {g : Nat} {l : List S29} (h : Inn w g l) (hb : Below w.heap.size w w') : Inn w' g l := by
  obtain ⟨cur, hh, hc⟩ := h
  exact ⟨cur, blk_below hh hb, hc⟩
theorem Inn.cell {w : World} {g : Nat} {l : List S29} (h : Inn w g l) (i : Nat) (x : S29) (hx : l[i]? = some x) : w.cell? ⟨g, i * 2, none⟩ = some (.int .i64 x.f0) ∧ w.cell? ⟨g, i * 2 + 1, none⟩ = some (.int .u64 x.f1) := by
  obtain ⟨cur, hh, hc⟩ := h
  obtain ⟨hi, rfl⟩ := List.getElem?_eq_some_iff.1 hx
  exact ⟨(blk_cell hh _).trans (hc (i * 2 + 0) _ (by rw [flatS_get l i 0 hi (by omega)]; rfl)), (blk_cell hh _).trans (hc (i * 2 + 1) _ (by rw [flatS_get l i 1 hi (by omega)]; rfl))⟩
theorem Inn.row {w : World} {g : Nat} {l : List S29} (h : Inn w g l) (l' : List S29) (hp : l' <+: l) (hl : l'.length ≤ 9223372036854775807) : Row w (some ⟨g, 0, none⟩) l' := by
  obtain ⟨cur, hh, hc⟩ := h
  refine ⟨hl, by rw [flatS_length], fun hn => ⟨⟨g, 0, none⟩, rfl, blk_lt hh, fun j u hu => ?_⟩⟩
  obtain ⟨r, rfl⟩ := hp
  have : (⟨g, 0, none⟩ : Addr).add j = ⟨g, j, none⟩ := by unfold Addr.add; split <;> simp_all
  rw [this, blk_cell hh]
  refine hc j u ?_
  rw [flatS_append, List.getElem?_append_left (by have := (List.getElem?_eq_some_iff.1 hu).1; exact this)]
  exact hu
theorem Inn.set {w : World} {g : Nat} {l : List S29} (h : Inn w g l) (i : Nat) (x : S29) (hi : i < l.length) : Inn ((w.setCell ⟨g, i * 2, none⟩ (.int .i64 x.f0)).setCell ⟨g, i * 2 + 1, none⟩ (.int .u64 x.f1)) g (l.set i x) := by
  obtain ⟨cur, hh, hc⟩ := h
  refine ⟨_, blk_set (blk_set hh _ _) _ _, fun j u hu => ?_⟩
  have hj : j < l.length * 2 := by have := (List.getElem?_eq_some_iff.1 hu).1; rw [flatS_length] at this; simpa using this
  have hcs : l.length * 2 ≤ cur.size := by
    have hpos : l.length * 2 - 1 < (flatS l).length := by rw [flatS_length]; omega
    have := hc (l.length * 2 - 1) _ (List.getElem?_eq_getElem hpos)
    have := (Array.getElem?_eq_some_iff.1 this).1
    omega
  have hd : j = j / 2 * 2 + j % 2 := by omega
  have hq : j / 2 < l.length := by omega
  have hu' := hu
  rw [hd, flatS_get _ (j / 2) (j % 2) (by simpa using hq) (by omega)] at hu'
  by_cases he : j / 2 = i
  · subst he
    simp only [List.getElem_set_self] at hu'
    rcases (show j % 2 = 0 ∨ j % 2 = 1 by omega) with h0 | h0
    · rw [h0] at hu'
      simp [cS] at hu'
      subst hu'
      have e : j = j / 2 * 2 := by omega
      rw [Array.getElem?_setIfInBounds_ne (by omega)]
      rw [show (cur.setIfInBounds (j / 2 * 2) (Value.int IntKind.i64 x.f0))[j]? = (cur.setIfInBounds (j / 2 * 2) (Value.int IntKind.i64 x.f0))[j / 2 * 2]? by rw [← e]]
      exact Array.getElem?_setIfInBounds_self_of_lt (by omega)
    · rw [h0] at hu'
      simp [cS] at hu'
      subst hu'
      have e : j = j / 2 * 2 + 1 := by omega
      rw [show (((cur.setIfInBounds (j / 2 * 2) (Value.int IntKind.i64 x.f0)).setIfInBounds (j / 2 * 2 + 1) (Value.int IntKind.u64 x.f1)))[j]? = (((cur.setIfInBounds (j / 2 * 2) (Value.int IntKind.i64 x.f0)).setIfInBounds (j / 2 * 2 + 1) (Value.int IntKind.u64 x.f1)))[j / 2 * 2 + 1]? by rw [← e]]
      exact Array.getElem?_setIfInBounds_self_of_lt (by simp; omega)
  · rw [Array.getElem?_setIfInBounds_ne (by omega), Array.getElem?_setIfInBounds_ne (by omega)]
    refine hc j u ?_
    rw [hd, flatS_get l (j / 2) (j % 2) hq (by omega)]
    rw [List.getElem_set_ne (by omega)] at hu'
    exact hu'
end Go.Proofs.Ytfbejjobejdenaa.PCodeSays
