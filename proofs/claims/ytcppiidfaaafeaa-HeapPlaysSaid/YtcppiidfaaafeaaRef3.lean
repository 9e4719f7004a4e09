/- The document's heap: Pop and Copy: the contracts. -/
import Derived.Test.YtcppiidfaaafeaaRef2
set_option linter.unusedVariables false
set_option linter.unusedSimpArgs false
namespace Go.Proofs.Ytcppiidfaaafeaa
open Go.RowKit Pl
namespace Ref
set_option maxHeartbeats 800000 in
theorem pop_no {B : Nat} {w : World} {rb : Nat} {o : Int} {v : Value} (H : Heap B w rb o v []) :
    Calls Try.prog 35 #[.pointer (some ⟨rb, 0, none⟩)] w fun e w' => e = .returned (.tuple #[HT.vt ⟨0, 0⟩, .bool false]) ∧ Below w.heap.size w w' := by
  go_enter Try.func35, Try.ntmps35
  go_wp2_with fail
  refine (at_c (H.below ((Below.refl _ _).alloc (Nat.le_refl _) _)) (by simp)).mono ?_
  rintro e w1 ⟨k, rfl, hk, hb1⟩
  obtain rfl : k = -1 := by
    rcases hk with ⟨h, _⟩ | ⟨κ, _, _, h, _⟩
    · exact h
    · simp at h
  have hbk : w1.heap[w.heap.size]? = some (.cells #[.int .i64 0, .int .i64 0] 37 (0, 0)) := (hb1.block _ (by simp)).trans (heap_alloc_new _ _)
  have r0 := blk_cell hbk 0
  have r1 := blk_cell hbk 1
  have s0 := blk_frozen hbk 0
  have s1 := blk_frozen hbk 1
  have hz := blk_lt hbk
  simp at r0 r1
  go_wp2
  exact bodyPost_ret (v := .tuple #[.agg #[.int .i64 0, .int .i64 0], .bool false]) (by simp [results, Try.results35, go_sem, *]) rfl ⟨rfl, ((((Below.refl _ _).alloc (Nat.le_refl _) _).trans (hb1.mono (by simp))).setCell (Nat.le_refl _) _).setCell (Nat.le_refl _) _⟩

def keep (L : List K) (κ i : Nat) : List K := (L.take i).eraseIdx κ
theorem keep_skip (L : List K) (κ : Nat) (hκ : κ < L.length) : keep L κ (κ + 1) = keep L κ κ := by
  unfold keep
  rw [List.take_succ_eq_append_getElem hκ, List.eraseIdx_append_of_length_le (by simp; omega), List.eraseIdx_of_length_le (l := L.take κ) (by simp; omega)]
  have : κ - (L.take κ).length = 0 := by simp; omega
  rw [this]; simp
theorem keep_take (L : List K) (κ i : Nat) (hi : i < L.length) (hne : i ≠ κ) : keep L κ (i + 1) = keep L κ i ++ [L[i]] := by
  unfold keep
  rw [List.take_succ_eq_append_getElem hi]
  rcases Nat.lt_or_gt_of_ne hne with h | h
  · rw [List.eraseIdx_of_length_le (by simp; omega), List.eraseIdx_of_length_le (by simp; omega)]
  · rw [List.eraseIdx_append_of_lt_length (by simp; omega)]
theorem keep_all (L : List K) (κ : Nat) : keep L κ L.length = L.eraseIdx κ := by unfold keep; rw [List.take_length]
theorem keep_len (L : List K) (κ i : Nat) : (keep L κ i).length ≤ i := by
  unfold keep
  have := List.length_eraseIdx_le (L.take i) κ
  simp at this; omega

set_option maxRecDepth 100000 in
set_option maxHeartbeats 2000000 in
theorem pop_yes {B : Nat} {w : World} {rb : Nat} {o : Int} {v : Value} {L : List K} (H : Heap B w rb o v L) (h0 : 0 < L.length) (hl : (L.length + 1) * 16 ≤ 140737488355328) (hB : B ≤ w.heap.size) :
    Calls Try.prog 35 #[.pointer (some ⟨rb, 0, none⟩)] w fun e w' => ∃ κ, ∃ hκ : κ < L.length, FirstMin (keyOf o) L κ ∧ e = .returned (.tuple #[HT.vt L[κ], .bool true]) ∧
      ∃ v', Heap B w' rb o v' (L.eraseIdx κ) ∧ Fr w w' rb none ∧ Moved w v v' := by
  have hrb := blk_lt H.blk
  obtain ⟨i0, hi0, hz0, hz1, hz2⟩ := info_parts info
  go_enter Try.func35, Try.ntmps35
  go_wp2_with fail
  refine (at_c (H.below ((Below.refl _ _).alloc (Nat.le_refl _) _)) (by omega)).mono ?_
  rintro e w1 ⟨k, rfl, hk, hb1⟩
  obtain ⟨κ, rfl, hmin⟩ := hk.min h0
  have hκ := hmin.1
  have hbk : w1.heap[w.heap.size]? = some (.cells #[.int .i64 0, .int .i64 0] 37 (0, 0)) := (hb1.block _ (by simp)).trans (heap_alloc_new _ _)
  have hb2 : Below w.heap.size w w1 := ((Below.refl _ _).alloc (Nat.le_refl _) _).trans (hb1.mono (by simp))
  have H1 := H.below hb2
  obtain ⟨g, c, rfl, hBg, hg, hne, hcap⟩ := H.form h0
  obtain ⟨x0, x1⟩ := H1.at_ κ hκ
  have e1 := blk_cell H1.blk 1
  have hrz := blk_lt hbk
  have hrb1 := blk_lt H1.blk
  simp at e1
  have i1 : (0 : Int) ≤ (κ : Int) := by omega
  have i2 : (κ : Int) < (L.length : Int) := by omega
  have i5 : ¬ (κ : Int) < 0 := by omega
  have i6 : decide ((κ : Int) < 0) = false := decide_eq_false i5
  have HM := Lib.hid hmin
  clear hmin hk hb1
  have HXE : ∃ x, x = L[κ] := ⟨_, rfl⟩
  obtain ⟨x, hx⟩ := HXE
  rw [← hx] at x0 x1
  have HX := Lib.hid hx
  clear hx
  obtain ⟨xk, xn⟩ := x
  simp only at x0 x1
  have hg1 : g < w1.heap.size := Nat.lt_of_lt_of_le hg hb2.size
  obtain ⟨n, hn⟩ : ∃ n, n = L.length := ⟨_, rfl⟩
  have HN := Lib.hid hn
  rw [← hn] at e1 hl i2 hcap
  rw [← hn] at H1
  go_wp2_with fail
  have H2 := H1.below ((Below.refl _ _).alloc (Nat.le_refl _) (.cells #[.int .i64 xk, .int .i64 xn] 37))
  have hq2 : (w1.alloc (.cells #[.int .i64 xk, .int .i64 xn] 37)).heap[w1.heap.size]? = some (.cells #[.int .i64 xk, .int .i64 xn] 37 (0, 0)) := heap_alloc_new _ _
  have hr2 := blk_alloc hbk (.cells #[.int .i64 xk, .int .i64 xn] 37)
  have c2 := hb2.alloc hb2.size (.cells #[.int .i64 xk, .int .i64 xn] 37)
  have hs2 : w1.heap.size + 1 ≤ (w1.alloc (.cells #[.int .i64 xk, .int .i64 xn] 37)).heap.size := by simp
  obtain ⟨q, hq⟩ : ∃ q, q = w1.heap.size := ⟨_, rfl⟩
  rw [← hq] at hq2 hs2 ⊢
  obtain ⟨r, hr⟩ : ∃ r, r = w.heap.size := ⟨_, rfl⟩
  rw [← hr] at hr2 ⊢
  have hrq : r < q := by omega
  have HR := Lib.hid hr
  have hgq : g < q := by omega
  have hrbr : rb < r := by omega
  have hgr : g < r := by omega
  have hrbq : rb < q := by omega
  clear hbk H1 x0 x1 e1 hrz hrb1 hg1 hn i5 i6 hb2 hq hr
  go_loopw [6, 7] (fun s6 s7 wr => ∃ i : Nat, s7 = .int .i64 i ∧ i ≤ n ∧ wr.ownsRow (q + 1) 37 2 s6 (keep L κ i).length (flat (keep L κ i)) ∧ Heap B wr rb o (.slice (some ⟨g, 0, none⟩) n c) L ∧
      wr.heap[q]? = some (.cells #[.int .i64 xk, .int .i64 xn] 37 (0, 0)) ∧ wr.heap[r]? = some (.cells #[.int .i64 0, .int .i64 0] 37 (0, 0)) ∧ Below r w wr ∧ q + 1 ≤ wr.heap.size) (fun _ s7 _ => n - (intOf s7).toNat)
  case atStart => exact ⟨0, rfl, by omega, by simpa [keep, flat] using World.ownsRow_nil _ _ _ _, H2, hq2, hr2, by rw [HR.out]; exact c2, hs2⟩
  case round =>
    clear H2 hq2 hr2 c2 hs2
    obtain ⟨i, rfl, hi, hO, H2, hq2, hr2, c2, hs2⟩ := hrel
    have e1 := blk_cell H2.blk 1
    simp at e1
    by_cases hin : i < n
    · have hiL : i < L.length := by have := HN.out; omega
      by_cases hiκ : i = κ
      · subst hiκ
        have hne1 : ((i : Int) != (i : Int)) = false := by simp
        have HKS := Lib.hid (keep_skip L i hκ)
        go_wp2
        go_roundw
        case rel => exact ⟨i + 1, by go_num, by omega, by rw [HKS.out]; exact hO, H2, hq2, hr2, c2, hs2⟩
        case measure => simp [intOf]; omega
      · have hne1 : ((i : Int) != (κ : Int)) = true := by simp; omega
        have HKT := Lib.hid (keep_take L κ i hiL hiκ)
        obtain ⟨y0, y1⟩ := H2.at_ i hiL
        have HYE : ∃ y, y = L[i] := ⟨_, rfl⟩
        obtain ⟨y, hy⟩ := HYE
        rw [← hy] at y0 y1
        have HY := Lib.hid hy
        have hkl := keep_len L κ i
        clear hy
        obtain ⟨yk, yn⟩ := y
        simp only at y0 y1
        have j1 : (0 : Int) ≤ (i : Int) := by omega
        have j2 : (i : Int) < (n : Int) := by omega
        have hiκ2 : ¬ (i : Int) = (κ : Int) := by omega
        clear hiκ
        go_wp2_with (at_builtin; refine wpList_append_lies _ rfl (.tmp 32) (.tmp 40) _ rfl (q + 1) 37 i0 _ 2 16 Try.underlying27 hi0 hz0 hz1 hz2 rfl (by omega) u6 _ _ rfl (hO.alloc _) ⟨wr.heap.size, 0, none⟩ 1 1 [.int .i64 yk, .int .i64 yn] rfl rfl (World.news_of_block (cs := #[.int .i64 yk, .int .i64 yn]) (t := 37) (fr := (0, 0)) (heap_alloc_new _ _)) (by simp [Value.oneCell']) (by omega) (by unfold maxLen; omega) (by omega) (by simp; omega) (wr.heap.size + 1) (by simp) ?_; intro g1 cap1 w3 hown1 hgrow1 hat1 hlt1)
        have hrow : ∀ k, u6.ownBlock = some k → q + 1 ≤ k := fun k hk => (hO.lt k hk).1
        have hmono : ∀ b, b < q + 1 → some b ≠ u6.ownBlock := fun b hb e => by have := hrow b e.symm; omega
        have a1 : Below wr.heap.size wr (wr.alloc (.cells #[.int .i64 yk, .int .i64 yn] 37)) := (Below.refl _ _).alloc (Nat.le_refl _) _
        have hkeep : ∀ b o', b < q + 1 → wr.heap[b]? = some o' → w3.heap[b]? = some o' := fun b o' hb h => (hgrow1.block b (by simp; omega) (hmono b hb)).trans (blk_below h a1)
        have c3 : Below r w w3 := (c2.alloc (by omega) (.cells #[.int .i64 yk, .int .i64 yn] 37)).grown hgrow1 (by simp; omega) (fun k hk => by have := hrow k hk; omega)
        have H3 : Heap B w3 rb o (.slice (some ⟨g, 0, none⟩) n c) L := by
          refine ⟨H2.base, hkeep rb _ (by omega) H2.blk, ((H2.own.alloc _).kept hgrow1 (.inr ?_))⟩
          intro e
          exact hmono g (by omega) e
        have hs3 : q + 1 ≤ w3.heap.size := Nat.le_trans hs2 (Nat.le_trans a1.size hgrow1.size)
        have hq3 := hkeep q _ (by omega) hq2
        have hr3 := hkeep r _ (by omega) hr2
        clear hO H2 hq2 hr2 c2 hs2 y0 y1 e1 hkeep hmono hrow a1 hgrow1
        go_roundw
        case rel => exact ⟨i + 1, by go_num, by omega, by rw [HKT.out, flat_append, List.length_append]; rw [← HY.out]; exact hown1, H3, hq3, hr3, c3, hs3⟩
        case measure => simp [intOf]; omega
    · have hin2 : i = n := by omega
      subst hin2
      have HKA := Lib.hid (keep_all L κ)
      have hO2 : wr.ownsRow (q + 1) 37 2 u6 (L.eraseIdx κ).length (flat (L.eraseIdx κ)) := by rw [← HKA.out]; rw [← HN.out]; exact hO
      obtain ⟨a', c', hv'⟩ : ∃ a c, u6 = .slice a (L.eraseIdx κ).length c := by
        rcases hO2.2 with ⟨h1, h2⟩ | ⟨g, cap, _, h1, _⟩
        · exact ⟨none, 0, by rw [h1, h2]⟩
        · exact ⟨_, cap, h1⟩
      subst hv'
      have r0 := blk_cell hr2 0
      have r1 := blk_cell hr2 1
      have s0 := blk_frozen hr2 0
      have s1 := blk_frozen hr2 1
      have q0 := blk_cell hq2 0
      have q1 := blk_cell hq2 1
      have f1 := blk_frozen H2.blk 1
      simp at r0 r1 q0 q1
      have n1 : ¬ r = rb := by omega
      have n2 : ¬ q = rb := by omega
      have n3 : ¬ rb = r := by omega
      have n4 : ¬ rb = q := by omega
      have n5 : ¬ r = q := by omega
      have n6 : ¬ q = r := by omega
      have hap : ∀ k, (Value.slice a' (L.eraseIdx κ).length c').ownBlock = some k → q + 1 ≤ k := fun k hk => (hO2.lt k hk).1
      have HAP := Lib.hid hap
      have HO2 := Lib.hid hO2
      clear hO hO2 hap
      go_wp2
      refine bodyPost_ret (v := .tuple #[.agg #[.int .i64 xk, .int .i64 xn], .bool true]) (by simp [results, Try.results35, go_sem, *]) rfl ⟨κ, hκ, HM.out, by rw [← HX.out], .slice a' (L.eraseIdx κ).length c', ?_, ?_, ?_⟩
      · have F := (((Fr.refl wr rb (some r)).setCell (p := ⟨rb, 1, none⟩) (.inl rfl) (.slice a' (L.eraseIdx κ).length c')).setCell (p := ⟨r, 0, none⟩) (.inr (.inl rfl)) (.int .i64 xk)).setCell (p := ⟨r, 1, none⟩) (.inr (.inl rfl)) (.int .i64 xn)
        refine ⟨H2.base, blk_far (blk_far (blk_set H2.blk 1 _) (by exact n3) _) (by exact n3) _, HT.own_weaken (base := q + 1) ?_ (by have := H2.base; omega)⟩
        refine F.own HO2.out (fun e => by have := HAP.out _ e; omega) (.inr (fun e => by have := HAP.out _ e; omega))
      · have F0 : Fr w wr rb none := ⟨c2.os, c2.tape, c2.output, c2.size, fun k hk _ _ => c2.block k (by rw [HR.out]; exact hk)⟩
        exact ((F0.setCell (.inl rfl) _).setCell (.inr (.inr (by rw [HR.out]; exact Nat.le_refl _))) _).setCell (.inr (.inr (by rw [HR.out]; exact Nat.le_refl _))) _
      · intro k hk
        have := HAP.out k hk
        right; have := HR.out; omega
end Ref
end Go.Proofs.Ytcppiidfaaafeaa
