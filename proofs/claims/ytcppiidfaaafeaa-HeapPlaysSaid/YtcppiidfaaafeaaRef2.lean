/- The document's heap: Push, Peek, Pop, Copy: the contracts. -/
import Derived.Test.YtcppiidfaaafeaaRef
import Derived.Test.YtcppiidfaaafeaaHTCopy
import Derived.Test.YtcppiidfaaafeaaTwo4
set_option linter.unusedVariables false
set_option linter.unusedSimpArgs false
namespace Go.Proofs.Ytcppiidfaaafeaa
open Go.RowKit Pl
/-- The new row lies where the old one did, or in a new block. -/
def Moved (w : World) (v vn : Value) : Prop := ∀ k, vn.ownBlock = some k → v.ownBlock = some k ∨ w.heap.size ≤ k
theorem Moved.ne {w : World} {v v' vn : Value} {base e size n : Nat} {xs : List Value} (hn : Moved w v vn) (h : NeRow v' v) (ho : w.ownsRow base e size v' n xs) : NeRow v' vn := by
  intro k hk hk'
  rcases hn k hk' with h1 | h1
  · exact h k hk h1
  · have := (ho.lt k hk).2; omega
theorem moved_of {w : World} {v vn : Value} (h : vn.ownBlock = v.ownBlock ∨ ∃ b, vn.ownBlock = some b ∧ w.heap.size ≤ b) : Moved w v vn := by
  intro k hk
  rcases h with h | ⟨b, hb, hle⟩
  · exact .inl (h ▸ hk)
  · rw [hb] at hk; injection hk with hk; right; omega
namespace Ref
theorem info : (Try.prog.info? 37).map (fun i => (i.zero, i.size, i.bytes)) = some (some (.agg #[.int .i64 0, .int .i64 0]), 2, 16) := by kernel_rfl
set_option maxRecDepth 100000 in
set_option maxHeartbeats 1000000 in
theorem push_c {B : Nat} {w : World} {rb : Nat} {o : Int} {v : Value} {L : List K} (H : Heap B w rb o v L) (x : K) (hB : B ≤ w.heap.size) (hl : (L.length + 1) * 16 ≤ 140737488355328) :
    Calls Try.prog 34 #[.pointer (some ⟨rb, 0, none⟩), HT.vt x] w fun e w' => e = .returned (.tuple #[]) ∧ ∃ v', Heap B w' rb o v' (L ++ [x]) ∧ Fr w w' rb v.ownBlock ∧ Moved w v v' := by
  obtain ⟨i0, hi0, hz0, hz1, hz2⟩ := info_parts info
  obtain ⟨a, c, rfl⟩ := H.shape
  obtain ⟨xk, xn⟩ := x
  have hrb := blk_lt H.blk
  have hrb1 : rb < w.heap.size + 1 := by omega
  have h1 := blk_cell H.blk 1
  have f1 := blk_frozen H.blk 1
  simp at h1
  have hown := H.own
  have hag := H.not_row
  have hca : ∀ o o', ((w.alloc o).alloc o').cell? ⟨rb, 1, none⟩ = some (.slice a L.length c) := fun o o' => by rw [World.cell?_alloc_past _ _ _ (by simp; omega), World.cell?_alloc_past _ _ _ hrb]; exact h1
  have hfb : ∀ o o', ((w.alloc o).alloc o').frozen? ⟨rb, 1, none⟩ = false := fun o o' => by rw [World.frozen?_alloc_past _ _ _ (by simp; omega), World.frozen?_alloc_past _ _ _ hrb]; exact f1
  have hnew : ∀ o o', ((w.alloc o).alloc o').heap[w.heap.size + 1]? = some o' := fun o o' => by have := heap_alloc_new (w.alloc o) o'; simpa using this
  go_enter Try.func34, Try.ntmps34
  go_wp2_with fail
  go_region_law
    ((refine step_append_lies _ (by rfl) _ _ _ (by rfl) B 37 i0 _ 2 16 Try.underlying27 hi0 hz0 hz1 hz2 rfl (by omega) _ _ _ (by rfl) ((((hown.alloc _).drew).alloc _)) ⟨w.heap.size + 1, 0, none⟩ 1 1 [.int .i64 xk, .int .i64 xn] (by rfl) (by rfl) (World.news_of_block (cs := #[.int .i64 xk, .int .i64 xn]) (t := 37) (fr := (0, 0)) (hnew _ _)) (by simp [Value.oneCell']) (by omega) (by unfold maxLen; omega) (by omega) (by simp; omega) (w.heap.size + 2) (by simp) ?_; intro gg cap w1 hown1 hgrow hat hlt; have e1 := (hgrow.cell_far ⟨rb, 1, none⟩ (by simp; omega) (Ne.symm hag)).trans (hca _ _); have e2 := (hgrow.frozen_far ⟨rb, 1, none⟩ (by simp; omega) (Ne.symm hag)).trans (hfb _ _)))
  all_goals
    go_wp2_with fail
    go_end0
    have hW : Below w.heap.size w ((w.alloc (.cells #[.int .i64 xk, .int .i64 xn] 37)).alloc (.cells #[.int .i64 xk, .int .i64 xn] 37)).drew := (((Below.refl _ _).alloc (Nat.le_refl _) _).alloc (by simp) _).drew
    have hb1 := (hgrow.block rb (Nat.lt_of_lt_of_le hrb hW.size) (Ne.symm hag)).trans (blk_below H.blk hW)
    have hne : gg ≠ rb := by
      rcases hown1.2 with ⟨h, _⟩ | ⟨g, _, _, h, _, hh, _⟩
      · cases h
      · injection h with h1; injection h1 with h1; injection h1 with h1; subst h1; exact blk_ne hh hb1 (by decide)
    have hF1 : Fr w w1 rb (Value.slice a L.length c).ownBlock := ⟨hgrow.os.trans hW.os, hgrow.tape.trans hW.tape, hgrow.output.trans hW.output, Nat.le_trans hW.size hgrow.size, fun k hk _ hr => (hgrow.block k (Nat.lt_of_lt_of_le hk hW.size) hr).trans (hW.block k hk)⟩
    have F := ((Fr.refl w1 rb none).setCell (p := ⟨rb, 1, none⟩) (.inl rfl) (.slice (some ⟨gg, 0, none⟩) (L.length + 1) cap))
    refine ⟨rfl, .slice (some ⟨gg, 0, none⟩) (L.length + 1) cap, ⟨H.base, blk_set hb1 1 _, ?_⟩, hF1.setCell (.inl rfl) _, ?_⟩
    · have e : flat (L ++ [⟨xk, xn⟩]) = flat L ++ [.int .i64 xk, .int .i64 xn] := by rw [flat_append]; simp [flat, ck]
      rw [e, List.length_append]
      exact F.own hown1 (by simp [Value.ownBlock, hne]) (.inr (by simp [Value.ownBlock]))
    · intro k hk
      have : gg = k := by simpa [Value.ownBlock] using hk
      subst this
      rcases hat with h | h
      · exact .inl h
      · right; omega
set_option maxHeartbeats 800000 in
theorem peek_no {B : Nat} {w : World} {rb : Nat} {o : Int} {v : Value} (H : Heap B w rb o v []) :
    Calls Try.prog 37 #[.pointer (some ⟨rb, 0, none⟩)] w fun e w' => e = .returned (.tuple #[HT.vt ⟨0, 0⟩, .bool false]) ∧ Below w.heap.size w w' := by
  go_enter Try.func37, Try.ntmps37
  go_wp2_with fail
  refine (at_c (H.below ((Below.refl _ _).alloc (Nat.le_refl _) _)) (by simp)).mono ?_
  rintro e w1 ⟨k, rfl, hk, hb1⟩
  obtain rfl : k = -1 := by
    rcases hk with ⟨h, _⟩ | ⟨κ, _, _, h, _⟩
    · exact h
    · simp at h
  have hbk : w1.heap[w.heap.size]? = some (.cells #[.int .i64 0, .int .i64 0] 37 (0, 0)) := (hb1.block _ (by simp)).trans (heap_alloc_new _ _)
  have r0 := blk_cell hbk 0
  have r1 := blk_cell hbk 1
  have s0 := blk_frozen hbk 0
  have s1 := blk_frozen hbk 1
  have hz := blk_lt hbk
  simp at r0 r1
  go_wp2
  exact bodyPost_ret (v := .tuple #[.agg #[.int .i64 0, .int .i64 0], .bool false]) (by simp [results, Try.results37, go_sem, *]) rfl ⟨rfl, ((((Below.refl _ _).alloc (Nat.le_refl _) _).trans (hb1.mono (by simp))).setCell (Nat.le_refl _) _).setCell (Nat.le_refl _) _⟩
set_option maxHeartbeats 800000 in
theorem peek_yes {B : Nat} {w : World} {rb : Nat} {o : Int} {v : Value} {L : List K} (H : Heap B w rb o v L) (h0 : 0 < L.length) (hl : L.length < 140737488355328) :
    Calls Try.prog 37 #[.pointer (some ⟨rb, 0, none⟩)] w fun e w' => ∃ κ, ∃ hκ : κ < L.length, FirstMin (keyOf o) L κ ∧ e = .returned (.tuple #[HT.vt L[κ], .bool true]) ∧ Below w.heap.size w w' := by
  go_enter Try.func37, Try.ntmps37
  go_wp2_with fail
  refine (at_c (H.below ((Below.refl _ _).alloc (Nat.le_refl _) _)) hl).mono ?_
  rintro e w1 ⟨k, rfl, hk, hb1⟩
  obtain ⟨κ, rfl, hmin⟩ := hk.min h0
  have hκ := hmin.1
  have hbk : w1.heap[w.heap.size]? = some (.cells #[.int .i64 0, .int .i64 0] 37 (0, 0)) := (hb1.block _ (by simp)).trans (heap_alloc_new _ _)
  have hb2 : Below w.heap.size w w1 := ((Below.refl _ _).alloc (Nat.le_refl _) _).trans (hb1.mono (by simp))
  have H1 := H.below hb2
  obtain ⟨g, c, rfl, hBg, hg, hne, hcap⟩ := H.form h0
  obtain ⟨x0, x1⟩ := H1.at_ κ hκ
  have e1 := blk_cell H1.blk 1
  have r0 := blk_cell hbk 0
  have r1 := blk_cell hbk 1
  have s0 := blk_frozen hbk 0
  have s1 := blk_frozen hbk 1
  have hz := blk_lt hbk
  simp at r0 r1 e1
  have i1 : (0 : Int) ≤ (κ : Int) := by omega
  have i2 : (κ : Int) < (L.length : Int) := by omega
  have i5 : ¬ (κ : Int) < 0 := by omega
  have i6 : decide ((κ : Int) < 0) = false := decide_eq_false i5
  have HM := Lib.hid hmin
  clear hmin hk hb1
  have HXE : ∃ x, x = L[κ] := ⟨_, rfl⟩
  obtain ⟨x, hx⟩ := HXE
  rw [← hx] at x0 x1
  have HX := Lib.hid hx
  clear hx
  obtain ⟨xk, xn⟩ := x
  simp only at x0 x1
  go_wp2
  exact bodyPost_ret (v := .tuple #[.agg #[.int .i64 xk, .int .i64 xn], .bool true]) (by simp [results, Try.results37, go_sem, *]) rfl ⟨κ, hκ, HM.out, by rw [← HX.out], (hb2.setCell (Nat.le_refl _) _).setCell (Nat.le_refl _) _⟩
end Ref
end Go.Proofs.Ytcppiidfaaafeaa
