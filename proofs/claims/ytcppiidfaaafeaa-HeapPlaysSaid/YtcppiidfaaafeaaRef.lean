/- The document's heap in memory; 'at': the first of the least. -/
import Derived.Test.YtcppiidfaaafeaaOrds
import Derived.Test.YtcppiidfaaafeaaHTDef
set_option linter.unusedVariables false
set_option linter.unusedSimpArgs false
namespace Go.Proofs.Ytcppiidfaaafeaa
open Go.RowKit Pl
namespace Ref
abbrev K := HT.K
def ck (x : K) : List Value := [.int .i64 x.key, .int .i64 x.name]
def flat (l : List K) : List Value := l.flatMap ck
theorem flat_append (l m : List K) : flat (l ++ m) = flat l ++ flat m := by simp [flat]
theorem flat_length (l : List K) : (flat l).length = l.length * 2 := by
  induction l with
  | nil => rfl
  | cons a l ih => simp only [flat, List.flatMap_cons, List.length_append, ck, List.length_cons, List.length_nil] at ih ⊢; omega
theorem flat_get (l : List K) (i j : Nat) (hi : i < l.length) (hj : j < 2) : (flat l)[i * 2 + j]? = (ck l[i])[j]? := by
  induction l generalizing i with
  | nil => simp at hi
  | cons a l ih =>
    have e : flat (a :: l) = ck a ++ flat l := rfl
    cases i with
    | zero => rw [e, Nat.zero_mul, Nat.zero_add, List.getElem?_append_left (by simp [ck]; omega)]; rfl
    | succ i =>
      rw [e, List.getElem?_append_right (by simp [ck]; omega)]
      have : (i + 1) * 2 + j - (ck a).length = i * 2 + j := by simp [ck]; omega
      rw [this, ih i (by simpa using hi)]
      rfl
theorem flat_one (l : List K) : ∀ u ∈ flat l, u.oneCell' = true := by
  intro u hu
  simp [flat, ck] at hu
  obtain ⟨x, _, h⟩ := hu
  rcases h with rfl | rfl <;> rfl
structure Heap (B : Nat) (w : World) (rb : Nat) (o : Int) (v : Value) (L : List K) : Prop where
  base : B ≤ rb
  blk : w.heap[rb]? = some (.cells #[.int .i64 o, v] 29 (0, 0))
  own : w.ownsRow B 37 2 v L.length (flat L)
section
variable {B : Nat} {w w' : World} {rb g n c : Nat} {o : Int} {v : Value} {L : List K}
theorem Heap.below (h : Heap B w rb o v L) (hw : Below w.heap.size w w') : Heap B w' rb o v L := ⟨h.base, blk_below h.blk hw, own_below h.own hw⟩
theorem Heap.len {a : Option Addr} (h : Heap B w rb o (.slice a n c) L) : n = L.length := by
  rcases h.own.2 with ⟨h1, h2⟩ | ⟨_, _, _, h1, _⟩
  · injection h1 with _ h1; omega
  · injection h1
theorem Heap.at_ (h : Heap B w rb o (.slice (some ⟨g, 0, none⟩) n c) L) (i : Nat) (hi : i < L.length) :
    w.cell? ⟨g, i * 2, none⟩ = some (.int .i64 L[i].key) ∧ w.cell? ⟨g, i * 2 + 1, none⟩ = some (.int .i64 L[i].name) := by
  have ho := h.own
  have hn := h.len
  subst hn
  exact ⟨by rw [ho.cellAt _ (by omega)]; exact flat_get L i 0 hi (by omega), by rw [ho.cellAt _ (by omega)]; exact flat_get L i 1 hi (by omega)⟩
theorem Heap.form (h : Heap B w rb o v L) (hl : 0 < L.length) : ∃ g c, v = .slice (some ⟨g, 0, none⟩) L.length c ∧ B ≤ g ∧ g < w.heap.size ∧ g ≠ rb ∧ L.length ≤ c := by
  rcases h.own.2 with ⟨_, h1⟩ | ⟨g, cap, cur, hv, hB, hh, hc, _⟩
  · omega
  · exact ⟨g, cap, hv, hB, blk_lt hh, blk_ne hh h.blk (by decide), hc⟩
theorem Heap.shape (h : Heap B w rb o v L) : ∃ a c, v = .slice a L.length c := by
  rcases h.own.2 with ⟨hv, h1⟩ | ⟨g, cap, cur, hv, _⟩
  · exact ⟨none, 0, by rw [hv, h1]⟩
  · exact ⟨_, cap, hv⟩
theorem Heap.not_row (H : Heap B w rb o v L) : v.ownBlock ≠ some rb := by
  intro e
  rcases H.own.2 with ⟨h, _⟩ | ⟨g, cap, cur, h, _, hh, _⟩
  · rw [h] at e; simp [Value.ownBlock] at e
  · rw [h] at e; simp [Value.ownBlock] at e; exact blk_ne hh H.blk (by decide) e
end
/-- The least so far. -/
def AtUp (key : K → Int) (L : List K) (j : Nat) (k : Int) : Prop :=
  (k = -1 ∧ j = 0) ∨ ∃ κ : Nat, k = κ ∧ κ < j ∧ κ < L.length ∧ ∀ (i : Nat) x y, i < j → L[i]? = some x → L[κ]? = some y → (i < κ → key y < key x) ∧ (κ ≤ i → key y ≤ key x)
theorem AtUp.first {key : K → Int} {L : List K} {j : Nat} (h : AtUp key L j (-1)) (hj : j < L.length) : AtUp key L (j + 1) (j : Int) := by
  rcases h with ⟨_, rfl⟩ | ⟨κ, h1, _⟩
  · refine .inr ⟨0, rfl, by omega, hj, fun i x y hi hx hy => ⟨by omega, fun _ => ?_⟩⟩
    have : i = 0 := by omega
    subst this; rw [hx] at hy; cases hy; exact Int.le_refl _
  · omega
theorem AtUp.keep {key : K → Int} {L : List K} {j κ : Nat} (h : AtUp key L j (κ : Int)) (hj : j < L.length) (hκ : κ < L.length) (hs : ¬ key L[j] < key L[κ]) : AtUp key L (j + 1) (κ : Int) := by
  rcases h with ⟨h1, _⟩ | ⟨κ', h1, h2, h3, h4⟩
  · omega
  · have : κ' = κ := by omega
    subst this
    refine .inr ⟨κ', rfl, by omega, h3, fun i x y hi hx hy => ?_⟩
    rcases Nat.lt_or_eq_of_le (Nat.le_of_lt_succ hi) with h' | rfl
    · exact h4 i x y h' hx hy
    · refine ⟨by omega, fun _ => ?_⟩
      rw [List.getElem?_eq_getElem hj] at hx; rw [List.getElem?_eq_getElem hκ] at hy
      cases hx; cases hy; omega
theorem AtUp.take {key : K → Int} {L : List K} {j κ : Nat} (h : AtUp key L j (κ : Int)) (hj : j < L.length) (hκ : κ < L.length) (hs : key L[j] < key L[κ]) : AtUp key L (j + 1) (j : Int) := by
  rcases h with ⟨h1, _⟩ | ⟨κ', h1, h2, h3, h4⟩
  · omega
  · have : κ' = κ := by omega
    subst this
    refine .inr ⟨j, rfl, by omega, hj, fun i x y hi hx hy => ?_⟩
    rw [List.getElem?_eq_getElem hj] at hy
    cases hy
    rcases Nat.lt_or_eq_of_le (Nat.le_of_lt_succ hi) with h' | rfl
    · have := h4 i x _ h' hx (List.getElem?_eq_getElem hκ)
      constructor
      · intro _
        rcases Nat.lt_or_ge i κ' with h'' | h''
        · have := this.1 h''; omega
        · have := this.2 h''; omega
      · omega
    · rw [List.getElem?_eq_getElem hj] at hx
      cases hx
      exact ⟨by omega, fun _ => Int.le_refl _⟩
theorem AtUp.min {key : K → Int} {L : List K} {k : Int} (h : AtUp key L L.length k) (h0 : 0 < L.length) : ∃ κ : Nat, k = κ ∧ FirstMin key L κ := by
  rcases h with ⟨_, h1⟩ | ⟨κ, h1, h2, h3, h4⟩
  · omega
  · exact ⟨κ, h1, h3, fun j a b ha hb => h4 j a b (List.getElem?_eq_some_iff.1 ha).1 ha hb⟩

set_option maxRecDepth 100000 in
set_option maxHeartbeats 2000000 in
theorem at_c {B : Nat} {w : World} {rb : Nat} {o : Int} {v : Value} {L : List K} (H : Heap B w rb o v L) (hl : L.length < 140737488355328) :
    Calls Try.prog 47 #[.pointer (some ⟨rb, 0, none⟩)] w fun e w' => ∃ k : Int, e = .returned (.int .i64 k) ∧ AtUp (keyOf o) L L.length k ∧ Below w.heap.size w w' := by
  obtain ⟨a, c, rfl⟩ := H.shape
  obtain ⟨n, hn⟩ : ∃ n, n = L.length := ⟨_, rfl⟩
  rw [← hn] at H hl ⊢
  have hrb := blk_lt H.blk
  have h0 := blk_cell H.blk 0
  have h1 := blk_cell H.blk 1
  simp at h0 h1
  have HN := Lib.hid hn
  have HH0 := Lib.hid h0
  have HH1 := Lib.hid h1
  clear hn h0 h1
  go_enter Try.func47, Try.ntmps47
  go_wp2_with fail
  go_loopw [3, 4] (fun s3 s4 wr => ∃ (j : Nat) (k : Int), s4 = .int .i64 j ∧ j ≤ n ∧ s3 = .int .i64 k ∧ AtUp (keyOf o) L j k ∧ Below w.heap.size w wr) (fun _ s4 _ => n - (intOf s4).toNat)
  case atStart => exact ⟨0, -1, rfl, by omega, rfl, .inl ⟨rfl, rfl⟩, Below.refl _ _⟩
  case round =>
    obtain ⟨j, k, rfl, hj, rfl, hup, hb⟩ := hrel
    have h0 := (hb.cell (p := ⟨rb, 0, none⟩) hrb).trans HH0.out
    have h1 := (hb.cell (p := ⟨rb, 1, none⟩) hrb).trans HH1.out
    by_cases hjn : j < n
    · have hjL : j < L.length := by have := HN.out; omega
      rcases hup with hup | hup
      · obtain ⟨rfl, rfl⟩ := hup
        have HUP := Lib.hid (AtUp.first (key := keyOf o) (L := L) (j := 0) (.inl ⟨rfl, rfl⟩) hjL)
        have HB := Lib.hid hb
        clear hb
        go_wp2_with fail
        go_quiet (fail)
        go_wp2
        go_roundw
        case rel => exact ⟨1, 0, by go_num, by omega, rfl, HUP.out, below_drewN HB.out _⟩
        case measure => simp [intOf]; omega
      · obtain ⟨κ, rfl, hκj, hκL, h4⟩ := hup
        have HUP := Lib.hid (show AtUp (keyOf o) L j (κ : Int) from .inr ⟨κ, rfl, hκj, hκL, h4⟩)
        clear h4
        have Hr := H.below hb
        obtain ⟨g, c', hv, hBg, hg, hne, hcap⟩ := Hr.form (by omega)
        injection hv with hv hv2 hv3
        subst hv; subst hv3
        obtain ⟨xj0, xj1⟩ := Hr.at_ j hjL
        obtain ⟨xk0, xk1⟩ := Hr.at_ κ hκL
        have HB := Lib.hid hb
        have HXE : ∃ x, x = L[j] := ⟨_, rfl⟩
        obtain ⟨x, hx⟩ := HXE
        have HYE : ∃ y, y = L[κ] := ⟨_, rfl⟩
        obtain ⟨y, hy⟩ := HYE
        rw [← hx] at xj0 xj1
        rw [← hy] at xk0 xk1
        have HX := Lib.hid hx
        have HY := Lib.hid hy
        clear hb Hr hx hy hcap hv2
        obtain ⟨xk, xn⟩ := x
        obtain ⟨yk, yn⟩ := y
        simp only at xj0 xj1 xk0 xk1
        have i1 : (0 : Int) ≤ (j : Int) := by omega
        have i2 : (j : Int) < (n : Int) := by omega
        have i3 : (0 : Int) ≤ (κ : Int) := by omega
        have i4 : (κ : Int) < (n : Int) := by omega
        have i5 : ¬ (κ : Int) < 0 := by omega
        have i6 : decide ((κ : Int) < 0) = false := decide_eq_false i5
        go_wp2_with fail
        refine region_still_tail 21 (by kernel_rfl) (by kernel_rfl) ?_
        simp only [List.take_succ_cons, List.take_zero, List.drop_succ_cons, List.drop_zero]
        repeat still_step
        try refine wpStill_nil ?_
        go_wp2_with fail
        refine (first_c o ⟨xk, xn⟩ ⟨yk, yn⟩ _).mono ?_
        rintro e w1 ⟨rfl, hb1⟩
        have hbw : Below w.heap.size w w1 := (below_drewN HB.out 1).trans (hb1.mono (by have := HB.out.size; simpa using this))
        clear hb1
        cases hlt : byKey (keyOf o) ⟨xk, xn⟩ ⟨yk, yn⟩ with
        | true =>
          have HLT := Lib.hid hlt
          have HBW := Lib.hid hbw
          clear hlt hbw
          go_wp2
          go_roundw
          case rel => exact ⟨j + 1, j, by go_num, by omega, rfl, HUP.out.take hjL hκL (by rw [← HX.out, ← HY.out]; exact of_decide_eq_true HLT.out), HBW.out⟩
          case measure => simp [intOf]; omega
        | false =>
          have HLT := Lib.hid hlt
          have HBW := Lib.hid hbw
          clear hlt hbw
          go_wp2
          go_roundw
          case rel => exact ⟨j + 1, κ, by go_num, by omega, rfl, HUP.out.keep hjL hκL (by rw [← HX.out, ← HY.out]; exact of_decide_eq_false HLT.out), HBW.out⟩
          case measure => simp [intOf]; omega
    · have hjn2 : j = n := by omega
      subst hjn2
      go_wp2
      go_ret
      exact ⟨k, rfl, hup, hb⟩
end Ref
end Go.Proofs.Ytcppiidfaaafeaa
