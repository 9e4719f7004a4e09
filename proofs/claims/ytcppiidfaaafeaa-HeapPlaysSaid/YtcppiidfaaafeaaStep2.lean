/- step: Pop, Peek and Len on both heaps. -/
import Derived.Test.YtcppiidfaaafeaaStep
set_option linter.unusedVariables false
set_option linter.unusedSimpArgs false
namespace Go.Proofs.Ytcppiidfaaafeaa
open Go.RowKit Pl
set_option maxRecDepth 100000 in
set_option maxHeartbeats 2000000 in
theorem step_pop_no {B : Nat} {w : World} {hb rb : Nat} {o : Int} {v u : Value} {M : Nat} {l R : List (Th HT.K)} {nx : Int} (T : Both B w hb rb o v u M l R nx) (hB : B ≤ w.heap.size) (hM : (M + 1) * 24 ≤ 140737488355328) (h0 : R = []) (on key name : Int) :
    Calls Try.prog 10 #[.agg #[.pointer (some ⟨hb, 0, none⟩), .pointer (some ⟨rb, 0, none⟩)], .agg #[.int .i64 2, .int .i64 on, .int .i64 key], .int .i64 name] w fun e w' =>
      e = .returned (.bool true) ∧ ∃ v' u', Twin B w' hb rb o v' u' M ∧ Frs w w' (Own hb rb v u) ∧ Moved w v v' ∧ Moved w u u' := by
  have a2 : Below w.heap.size w ((w.alloc (.cells #[.pointer (some ⟨hb, 0, none⟩), .pointer (some ⟨rb, 0, none⟩)] 31)).alloc (.cells #[.int .i64 2, .int .i64 on, .int .i64 key] 34)) := ((Below.refl _ _).alloc (Nat.le_refl _) _).alloc (by simp) _
  have hhb := blk_lt T.hp.blk
  have hrb := blk_lt T.rf.blk
  have hll : l.length = R.length := T.hs.perm.length_eq
  go_enter Try.func10, Try.ntmps10
  go_wp2_with fail
  have k0 : ((w.alloc (.cells #[.pointer (some ⟨hb, 0, none⟩), .pointer (some ⟨rb, 0, none⟩)] 31)).alloc (.cells #[.int .i64 2, .int .i64 on, .int .i64 key] 34)).heap[w.heap.size]? = some (.cells #[.pointer (some ⟨hb, 0, none⟩), .pointer (some ⟨rb, 0, none⟩)] 31 (0, 0)) := blk_alloc (heap_alloc_new _ _) _
  generalize ((w.alloc (.cells #[.pointer (some ⟨hb, 0, none⟩), .pointer (some ⟨rb, 0, none⟩)] 31)).alloc (.cells #[.int .i64 2, .int .i64 on, .int .i64 key] 34)) = W2 at *
  have H2 := T.hp.below a2
  have R2 := T.rf.below a2
  have hB2 := Nat.le_trans hB a2.size
  have hn0 := T.n0
  have hn1 := T.n1
  have hln := T.ln
  have hnv : ∀ k, v.ownBlock = some k → k < w.heap.size := fun k hk => (T.hp.own.lt k hk).2
  have hnu : ∀ k, u.ownBlock = some k → k < w.heap.size := fun k hk => (T.rf.own.lt k hk).2
  subst h0
  have hl0 : l = [] := List.eq_nil_of_length_eq_zero (by simpa using hll)
  subst hl0
  refine (HT.pop_no H2).mono ?_
  rintro e w3 ⟨rfl, b3⟩
  have a3 := a2.trans (b3.mono a2.size)
  have k3 := blk_below k0 b3
  have R3 := R2.below b3
  have H3 := H2.below b3
  have a4 := (Below.refl w3.heap.size w3).alloc (Nat.le_refl _) (.cells #[.int .i64 0, .int .i64 0] 37)
  have c0 := blk_cell k3 1
  have hz3 := blk_lt k3
  simp at c0
  clear H2 R2 b3 k0
  go_wp2_with fail
  refine (Ref.pop_no (R3.below a4)).mono ?_
  rintro e w5 ⟨rfl, b5⟩
  have kq : w5.heap[w3.heap.size]? = some (.cells #[.int .i64 0, .int .i64 0] 37 (0, 0)) := blk_below (heap_alloc_new _ _) b5
  have q0 := blk_cell kq 0
  have q1 := blk_cell kq 1
  have hq := blk_lt kq
  simp at q0 q1
  have a5 : Below w3.heap.size w3 w5 := a4.trans (b5.mono (by simp))
  have a6 := (a3.trans (a5.mono a3.size)).alloc (Nat.le_trans a3.size a5.size) (.cells #[.int .i64 0, .int .i64 0] 37)
  go_wp2
  go_ret
  exact ⟨by first | rfl | simp, v, u, Twin.below ⟨_, _, _, T⟩ a6, Frs.of_below _ a6, Moved.refl _ _, Moved.refl _ _⟩
set_option maxRecDepth 100000 in
set_option maxHeartbeats 2000000 in
theorem step_pop_yes {B : Nat} {w : World} {hb rb : Nat} {o : Int} {v u : Value} {M : Nat} {l R : List (Th HT.K)} {nx : Int} (T : Both B w hb rb o v u M l R nx) (hB : B ≤ w.heap.size) (hM : (M + 1) * 24 ≤ 140737488355328) (h0 : 0 < R.length) (on key name : Int) :
    Calls Try.prog 10 #[.agg #[.pointer (some ⟨hb, 0, none⟩), .pointer (some ⟨rb, 0, none⟩)], .agg #[.int .i64 2, .int .i64 on, .int .i64 key], .int .i64 name] w fun e w' =>
      e = .returned (.bool true) ∧ ∃ v' u', Twin B w' hb rb o v' u' M ∧ Frs w w' (Own hb rb v u) ∧ Moved w v v' ∧ Moved w u u' := by
  have a2 : Below w.heap.size w ((w.alloc (.cells #[.pointer (some ⟨hb, 0, none⟩), .pointer (some ⟨rb, 0, none⟩)] 31)).alloc (.cells #[.int .i64 2, .int .i64 on, .int .i64 key] 34)) := ((Below.refl _ _).alloc (Nat.le_refl _) _).alloc (by simp) _
  have hhb := blk_lt T.hp.blk
  have hrb := blk_lt T.rf.blk
  have hll : l.length = R.length := T.hs.perm.length_eq
  go_enter Try.func10, Try.ntmps10
  go_wp2_with fail
  have k0 : ((w.alloc (.cells #[.pointer (some ⟨hb, 0, none⟩), .pointer (some ⟨rb, 0, none⟩)] 31)).alloc (.cells #[.int .i64 2, .int .i64 on, .int .i64 key] 34)).heap[w.heap.size]? = some (.cells #[.pointer (some ⟨hb, 0, none⟩), .pointer (some ⟨rb, 0, none⟩)] 31 (0, 0)) := blk_alloc (heap_alloc_new _ _) _
  generalize ((w.alloc (.cells #[.pointer (some ⟨hb, 0, none⟩), .pointer (some ⟨rb, 0, none⟩)] 31)).alloc (.cells #[.int .i64 2, .int .i64 on, .int .i64 key] 34)) = W2 at *
  have H2 := T.hp.below a2
  have R2 := T.rf.below a2
  have hB2 := Nat.le_trans hB a2.size
  have hn0 := T.n0
  have hn1 := T.n1
  have hln := T.ln
  have hnv : ∀ k, v.ownBlock = some k → k < w.heap.size := fun k hk => (T.hp.own.lt k hk).2
  have hnu : ∀ k, u.ownBlock = some k → k < w.heap.size := fun k hk => (T.rf.own.lt k hk).2
  have hl0 : 0 < l.length := by omega
  refine (HT.pop_yes (fo_first o) H2 hl0 (by omega)).mono ?_
  rintro e w3 ⟨rfl, v', H3, F3, hmv⟩
  have k3 := F3.blk k0 (by omega) (fun e => by have := hnv _ e.symm; omega)
  have R3 := R2.kept H2 F3
  have c0 := blk_cell k3 1
  have hz3 := blk_lt k3
  simp at c0
  obtain ⟨k, hk, hk1, hk2, hk3⟩ := T.hs.pop (keyOf o) hl0
  obtain ⟨x, hx⟩ : ∃ x, x = l[0].v := ⟨_, rfl⟩
  rw [← hx]
  have HX := Lib.hid hx
  have HK1 := Lib.hid hk1
  have HK2 := Lib.hid hk2
  have HK3 := Lib.hid hk3
  obtain ⟨xk, xn⟩ := x
  have a4 := (Below.refl w3.heap.size w3).alloc (Nat.le_refl _) (.cells #[.int .i64 xk, .int .i64 xn] 37)
  have HF3 := Lib.hid (show Frs w w3 (Own hb rb v u) from (Frs.of_below _ a2).trans (Frs.of_fr F3 (Own hb rb v u) (.inl rfl) (fun k hk => .inr (.inr (.inl hk)))) (fun _ _ h => h))
  have hB4 : B ≤ (w3.alloc (.cells #[.int .i64 xk, .int .i64 xn] 37)).heap.size := Nat.le_trans hB2 (Nat.le_trans F3.size a4.size)
  have HMV := Lib.hid hmv
  clear H2 R2 F3 k0 hx hk1 hk2 hk3 hmv
  go_wp2_with fail
  refine (Ref.pop_yes (R3.below a4) (by simpa using h0) (by simp; omega) hB4).mono ?_
  rintro e w5 ⟨κ, hκ, hmin, rfl, u', R5, F5, hmu⟩
  have hκk : k = κ := firstMin_unique HK2.out hmin
  have hy : (R.map (·.v))[κ] = (⟨xk, xn⟩ : HT.K) := by rw [HX.out, HK1.out]; simp [hκk]
  rw [hy]
  have hmap : (R.map (·.v)).eraseIdx κ = (R.eraseIdx k).map (·.v) := by rw [hκk, List.eraseIdx_eq_take_drop_succ, List.eraseIdx_eq_take_drop_succ]; simp [List.map_take, List.map_drop]
  rw [hmap] at R5
  have H5 := (H3.below a4).kept (R3.below a4) F5 (.inr rfl)
  have kq : w5.heap[w3.heap.size]? = some (.cells #[.int .i64 xk, .int .i64 xn] 37 (0, 0)) := F5.blk (heap_alloc_new _ _) (by have := blk_lt R3.blk; omega) (by simp)
  have q0 := blk_cell kq 0
  have q1 := blk_cell kq 1
  have hq := blk_lt kq
  simp at q0 q1
  have HF5 := Lib.hid (show Frs w w5 (Own hb rb v u) from (HF3.out.trans (Frs.of_below (Own hb rb v u) a4) (fun _ _ h => h)).trans (Frs.of_fr F5 (fun k => k = rb) rfl (fun k hk => by simp at hk)) (fun b _ h => .inr (.inl h)))
  have HMU := Lib.hid (show Moved w u u' from fun k hk => by
    rcases hmu k hk with h | h
    · exact .inl h
    · right; exact Nat.le_trans (Nat.le_trans HF3.out.size a4.size) h)
  have HMV2 := Lib.hid (show Moved w v v' from fun k hk => by left; rw [← HMV.out]; exact hk)
  have a6 := (Below.refl w5.heap.size w5).alloc (Nat.le_refl _) (.cells #[.int .i64 xk, .int .i64 xn] 37)
  have hle : (R.eraseIdx k).length ≤ M := Nat.le_trans (by simpa using List.length_eraseIdx_le R k) hln
  have HLE := Lib.hid hle
  clear hy hmin hκk hmap hmu hle R3 H3 F5
  go_wp2
  go_ret
  exact ⟨by first | rfl | simp, v', u', ⟨_, _, _, H5.below a6, R5.below a6, HK3.out, hn0, hn1, HLE.out⟩, HF5.out.trans (Frs.of_below (Own hb rb v u) a6) (fun _ _ h => h), HMV2.out, HMU.out⟩
set_option maxRecDepth 100000 in
set_option maxHeartbeats 2000000 in
theorem step_peek_no {B : Nat} {w : World} {hb rb : Nat} {o : Int} {v u : Value} {M : Nat} {l R : List (Th HT.K)} {nx : Int} (T : Both B w hb rb o v u M l R nx) (hB : B ≤ w.heap.size) (hM : (M + 1) * 24 ≤ 140737488355328) (h0 : R = []) (on key name : Int) :
    Calls Try.prog 10 #[.agg #[.pointer (some ⟨hb, 0, none⟩), .pointer (some ⟨rb, 0, none⟩)], .agg #[.int .i64 3, .int .i64 on, .int .i64 key], .int .i64 name] w fun e w' =>
      e = .returned (.bool true) ∧ ∃ v' u', Twin B w' hb rb o v' u' M ∧ Frs w w' (Own hb rb v u) ∧ Moved w v v' ∧ Moved w u u' := by
  have a2 : Below w.heap.size w ((w.alloc (.cells #[.pointer (some ⟨hb, 0, none⟩), .pointer (some ⟨rb, 0, none⟩)] 31)).alloc (.cells #[.int .i64 3, .int .i64 on, .int .i64 key] 34)) := ((Below.refl _ _).alloc (Nat.le_refl _) _).alloc (by simp) _
  have hhb := blk_lt T.hp.blk
  have hrb := blk_lt T.rf.blk
  have hll : l.length = R.length := T.hs.perm.length_eq
  go_enter Try.func10, Try.ntmps10
  go_wp2_with fail
  have k0 : ((w.alloc (.cells #[.pointer (some ⟨hb, 0, none⟩), .pointer (some ⟨rb, 0, none⟩)] 31)).alloc (.cells #[.int .i64 3, .int .i64 on, .int .i64 key] 34)).heap[w.heap.size]? = some (.cells #[.pointer (some ⟨hb, 0, none⟩), .pointer (some ⟨rb, 0, none⟩)] 31 (0, 0)) := blk_alloc (heap_alloc_new _ _) _
  generalize ((w.alloc (.cells #[.pointer (some ⟨hb, 0, none⟩), .pointer (some ⟨rb, 0, none⟩)] 31)).alloc (.cells #[.int .i64 3, .int .i64 on, .int .i64 key] 34)) = W2 at *
  have H2 := T.hp.below a2
  have R2 := T.rf.below a2
  have hB2 := Nat.le_trans hB a2.size
  have hn0 := T.n0
  have hn1 := T.n1
  have hln := T.ln
  have hnv : ∀ k, v.ownBlock = some k → k < w.heap.size := fun k hk => (T.hp.own.lt k hk).2
  have hnu : ∀ k, u.ownBlock = some k → k < w.heap.size := fun k hk => (T.rf.own.lt k hk).2
  subst h0
  have hl0 : l = [] := List.eq_nil_of_length_eq_zero (by simpa using hll)
  subst hl0
  refine (HT.peek_no H2).mono ?_
  rintro e w3 ⟨rfl, b3⟩
  have a3 := a2.trans (b3.mono a2.size)
  have k3 := blk_below k0 b3
  have R3 := R2.below b3
  have H3 := H2.below b3
  have a4 := (Below.refl w3.heap.size w3).alloc (Nat.le_refl _) (.cells #[.int .i64 0, .int .i64 0] 37)
  have c0 := blk_cell k3 1
  have hz3 := blk_lt k3
  simp at c0
  clear H2 R2 b3 k0
  go_wp2_with fail
  refine (Ref.peek_no (R3.below a4)).mono ?_
  rintro e w5 ⟨rfl, b5⟩
  have kq : w5.heap[w3.heap.size]? = some (.cells #[.int .i64 0, .int .i64 0] 37 (0, 0)) := blk_below (heap_alloc_new _ _) b5
  have q0 := blk_cell kq 0
  have q1 := blk_cell kq 1
  have hq := blk_lt kq
  simp at q0 q1
  have a5 : Below w3.heap.size w3 w5 := a4.trans (b5.mono (by simp))
  have a6 := (a3.trans (a5.mono a3.size)).alloc (Nat.le_trans a3.size a5.size) (.cells #[.int .i64 0, .int .i64 0] 37)
  go_wp2
  go_ret
  exact ⟨by first | rfl | simp, v, u, Twin.below ⟨_, _, _, T⟩ a6, Frs.of_below _ a6, Moved.refl _ _, Moved.refl _ _⟩
set_option maxRecDepth 100000 in
set_option maxHeartbeats 2000000 in
theorem step_peek_yes {B : Nat} {w : World} {hb rb : Nat} {o : Int} {v u : Value} {M : Nat} {l R : List (Th HT.K)} {nx : Int} (T : Both B w hb rb o v u M l R nx) (hB : B ≤ w.heap.size) (hM : (M + 1) * 24 ≤ 140737488355328) (h0 : 0 < R.length) (on key name : Int) :
    Calls Try.prog 10 #[.agg #[.pointer (some ⟨hb, 0, none⟩), .pointer (some ⟨rb, 0, none⟩)], .agg #[.int .i64 3, .int .i64 on, .int .i64 key], .int .i64 name] w fun e w' =>
      e = .returned (.bool true) ∧ ∃ v' u', Twin B w' hb rb o v' u' M ∧ Frs w w' (Own hb rb v u) ∧ Moved w v v' ∧ Moved w u u' := by
  have a2 : Below w.heap.size w ((w.alloc (.cells #[.pointer (some ⟨hb, 0, none⟩), .pointer (some ⟨rb, 0, none⟩)] 31)).alloc (.cells #[.int .i64 3, .int .i64 on, .int .i64 key] 34)) := ((Below.refl _ _).alloc (Nat.le_refl _) _).alloc (by simp) _
  have hhb := blk_lt T.hp.blk
  have hrb := blk_lt T.rf.blk
  have hll : l.length = R.length := T.hs.perm.length_eq
  go_enter Try.func10, Try.ntmps10
  go_wp2_with fail
  have k0 : ((w.alloc (.cells #[.pointer (some ⟨hb, 0, none⟩), .pointer (some ⟨rb, 0, none⟩)] 31)).alloc (.cells #[.int .i64 3, .int .i64 on, .int .i64 key] 34)).heap[w.heap.size]? = some (.cells #[.pointer (some ⟨hb, 0, none⟩), .pointer (some ⟨rb, 0, none⟩)] 31 (0, 0)) := blk_alloc (heap_alloc_new _ _) _
  generalize ((w.alloc (.cells #[.pointer (some ⟨hb, 0, none⟩), .pointer (some ⟨rb, 0, none⟩)] 31)).alloc (.cells #[.int .i64 3, .int .i64 on, .int .i64 key] 34)) = W2 at *
  have H2 := T.hp.below a2
  have R2 := T.rf.below a2
  have hB2 := Nat.le_trans hB a2.size
  have hn0 := T.n0
  have hn1 := T.n1
  have hln := T.ln
  have hnv : ∀ k, v.ownBlock = some k → k < w.heap.size := fun k hk => (T.hp.own.lt k hk).2
  have hnu : ∀ k, u.ownBlock = some k → k < w.heap.size := fun k hk => (T.rf.own.lt k hk).2
  have hl0 : 0 < l.length := by omega
  refine (HT.peek_yes H2 hl0).mono ?_
  rintro e w3 ⟨rfl, b3⟩
  have a3 := a2.trans (b3.mono a2.size)
  have k3 := blk_below k0 b3
  have R3 := R2.below b3
  have c0 := blk_cell k3 1
  have hz3 := blk_lt k3
  simp at c0
  obtain ⟨k, hk, hk1, hk2, _⟩ := T.hs.pop (keyOf o) hl0
  obtain ⟨x, hx⟩ : ∃ x, x = l[0].v := ⟨_, rfl⟩
  rw [← hx]
  have HX := Lib.hid hx
  have HK1 := Lib.hid hk1
  have HK2 := Lib.hid hk2
  obtain ⟨xk, xn⟩ := x
  have a4 := (Below.refl w3.heap.size w3).alloc (Nat.le_refl _) (.cells #[.int .i64 xk, .int .i64 xn] 37)
  clear H2 R2 b3 k0 hx hk1 hk2
  go_wp2_with fail
  refine (Ref.peek_yes (R3.below a4) (by simpa using h0) (by simp; omega)).mono ?_
  rintro e w5 ⟨κ, hκ, hmin, rfl, b5⟩
  have hκk : k = κ := firstMin_unique HK2.out hmin
  have hy : (R.map (·.v))[κ] = (⟨xk, xn⟩ : HT.K) := by rw [HX.out, HK1.out]; simp [hκk]
  rw [hy]
  have kq : w5.heap[w3.heap.size]? = some (.cells #[.int .i64 xk, .int .i64 xn] 37 (0, 0)) := blk_below (heap_alloc_new _ _) b5
  have q0 := blk_cell kq 0
  have q1 := blk_cell kq 1
  have hq := blk_lt kq
  simp at q0 q1
  have a5 : Below w3.heap.size w3 w5 := a4.trans (b5.mono (by simp))
  have a6 := (a3.trans (a5.mono a3.size)).alloc (Nat.le_trans a3.size a5.size) (.cells #[.int .i64 xk, .int .i64 xn] 37)
  clear hy hmin hκk
  go_wp2
  go_ret
  exact ⟨by first | rfl | simp, v, u, Twin.below ⟨_, _, _, T⟩ a6, Frs.of_below _ a6, Moved.refl _ _, Moved.refl _ _⟩
set_option maxRecDepth 100000 in
set_option maxHeartbeats 2000000 in
theorem step_else {B : Nat} {w : World} {hb rb : Nat} {o : Int} {v u : Value} {M : Nat} {l R : List (Th HT.K)} {nx : Int} (T : Both B w hb rb o v u M l R nx) (kd on key name : Int) (h1 : kd ≠ 1) (h2 : kd ≠ 2) (h3 : kd ≠ 3) :
    Calls Try.prog 10 #[.agg #[.pointer (some ⟨hb, 0, none⟩), .pointer (some ⟨rb, 0, none⟩)], .agg #[.int .i64 kd, .int .i64 on, .int .i64 key], .int .i64 name] w fun e w' =>
      e = .returned (.bool true) ∧ Below w.heap.size w w' := by
  have a2 : Below w.heap.size w ((w.alloc (.cells #[.pointer (some ⟨hb, 0, none⟩), .pointer (some ⟨rb, 0, none⟩)] 31)).alloc (.cells #[.int .i64 kd, .int .i64 on, .int .i64 key] 34)) := ((Below.refl _ _).alloc (Nat.le_refl _) _).alloc (by simp) _
  have hhb := blk_lt T.hp.blk
  have hrb := blk_lt T.rf.blk
  have hll : l.length = R.length := T.hs.perm.length_eq
  have e1 : (kd == 1) = false := by simp [h1]
  have e2 : (kd == 2) = false := by simp [h2]
  have e3 : (kd == 3) = false := by simp [h3]
  have H2 := T.hp.below a2
  have R2 := T.rf.below a2
  obtain ⟨au, cu, hu'⟩ := R2.shape
  have cr := blk_cell R2.blk 1
  rw [hu'] at cr
  have HLN := Lib.hid (show ((l.length : Nat) : Int) = (((R.map (·.v)).length : Nat) : Int) by simp; omega)
  simp only [List.getElem?_toArray, List.getElem?_cons_succ, List.getElem?_cons_zero] at cr
  generalize hq : (R.map (·.v)).length = q at *
  have hhb2 : hb < w.heap.size + 1 := by omega
  have hrb2 : rb < w.heap.size + 1 := by omega
  clear hll hu' hq R2 h1 h2 h3
  have cr2 : w.cell? ⟨rb, 1, none⟩ = some (.slice au q cu) := by rw [← cr]; exact (a2.cell (p := ⟨rb, 1, none⟩) hrb).symm
  go_enter Try.func10, Try.ntmps10
  go_wp2
  go_quiet ((go_at_call 23; exact (HT.len_c (H2.below (below_drewN (Below.refl _ _) _))).mono fun _ _ ⟨he, hm⟩ => ⟨by rw [he, HLN.out], _, hm.symm⟩))
  go_wp2
  go_ret
  exact ⟨by first | rfl | simp, below_drewN a2 _⟩
end Go.Proofs.Ytcppiidfaaafeaa
