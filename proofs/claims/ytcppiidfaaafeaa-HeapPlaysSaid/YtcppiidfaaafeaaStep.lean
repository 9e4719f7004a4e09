/- One call on both heaps: the program's and the document's: step answers true. -/
import Derived.Test.YtcppiidfaaafeaaRef4
import Derived.Test.YtcppiidfaaafeaaGreat
set_option linter.unusedVariables false
set_option linter.unusedSimpArgs false
namespace Go.Proofs.Ytcppiidfaaafeaa
open Go.RowKit Pl
theorem firstMin_unique {T : Type} {key : T → Int} {L : List T} {k κ : Nat} (h : FirstMin key L k) (h' : FirstMin key L κ) : k = κ := by
  have hk := List.getElem?_eq_getElem h.1
  have hκ := List.getElem?_eq_getElem h'.1
  rcases Nat.lt_trichotomy k κ with hlt | he | hlt
  · have a := (h'.2 k _ _ hk hκ).1 hlt
    have b := (h.2 κ _ _ hκ hk).2 (by omega)
    omega
  · exact he
  · have a := (h.2 κ _ _ hκ hk).1 hlt
    have b := (h'.2 k _ _ hk hκ).2 (by omega)
    omega
/-- The order's function, by its number. -/
def fo (o : Int) : Nat := if o = 0 then 20 else if o = 1 then 31 else 32
theorem keyOf_some {o : Int} (h0 : o ≠ 0) (h1 : o ≠ 1) : keyOf o = keyOf 2 := by
  funext x; simp [keyOf, h0, h1]
theorem fo_first (o : Int) : HT.First (fo o) (byKey (keyOf o)) := by
  unfold fo
  by_cases h0 : o = 0
  · rw [if_pos h0, h0]; exact rising_first
  · rw [if_neg h0]
    by_cases h1 : o = 1
    · rw [if_pos h1, h1]; exact falling_first
    · rw [if_neg h1, keyOf_some h0 h1]; exact some_first
/-- What both hold. -/
structure Both (B : Nat) (w : World) (hb rb : Nat) (o : Int) (v u : Value) (M : Nat) (l : List (Th HT.K)) (R : List (Th HT.K)) (nx : Int) : Prop where
  hp : HT.Heap B w hb (fo o) v l nx
  rf : Ref.Heap B w rb o u (R.map (·.v))
  hs : Holds (keyOf o) l R nx
  n0 : 0 ≤ nx
  n1 : nx ≤ M
  ln : R.length ≤ M
def Twin (B : Nat) (w : World) (hb rb : Nat) (o : Int) (v u : Value) (M : Nat) : Prop := ∃ l R nx, Both B w hb rb o v u M l R nx
theorem Twin.mono {B : Nat} {w : World} {hb rb : Nat} {o : Int} {v u : Value} {M M' : Nat} (h : Twin B w hb rb o v u M) (hM : M ≤ M') : Twin B w hb rb o v u M' := by
  obtain ⟨l, R, nx, h⟩ := h
  exact ⟨l, R, nx, h.hp, h.rf, h.hs, h.n0, by have := h.n1; omega, by have := h.ln; omega⟩
theorem Twin.below {B : Nat} {w w' : World} {hb rb : Nat} {o : Int} {v u : Value} {M : Nat} (h : Twin B w hb rb o v u M) (hw : Below w.heap.size w w') : Twin B w' hb rb o v u M := by
  obtain ⟨l, R, nx, h⟩ := h
  exact ⟨l, R, nx, h.hp.below hw, h.rf.below hw, h.hs, h.n0, h.n1, h.ln⟩
/-- Only blocks of S, and new ones, differ. -/
structure Frs (w w' : World) (S : Nat → Prop) : Prop where
  os : w'.os = w.os
  tape : w'.tape = w.tape
  output : w'.output = w.output
  size : w.heap.size ≤ w'.heap.size
  block : ∀ k, k < w.heap.size → ¬ S k → w'.heap[k]? = w.heap[k]?
/-- The blocks of a pair. -/
def Own (hb rb : Nat) (v u : Value) (k : Nat) : Prop := k = hb ∨ k = rb ∨ v.ownBlock = some k ∨ u.ownBlock = some k
theorem Frs.of_below {w w' : World} (S : Nat → Prop) (h : Below w.heap.size w w') : Frs w w' S := ⟨h.os, h.tape, h.output, h.size, fun k hk _ => h.block k hk⟩
theorem Frs.trans {w w1 w2 : World} {S S' : Nat → Prop} (h : Frs w w1 S) (k : Frs w1 w2 S') (hS : ∀ b, b < w.heap.size → S' b → S b) : Frs w w2 S :=
  ⟨k.os.trans h.os, k.tape.trans h.tape, k.output.trans h.output, Nat.le_trans h.size k.size, fun b hb hn => (k.block b (Nat.lt_of_lt_of_le hb h.size) (fun e => hn (hS b hb e))).trans (h.block b hb hn)⟩
theorem Frs.of_fr {w w' : World} {g : Nat} {row : Option Nat} (h : Fr w w' g row) (S : Nat → Prop) (h1 : S g) (h2 : ∀ k, row = some k → S k) : Frs w w' S :=
  ⟨h.os, h.tape, h.output, h.size, fun k hk hn => h.block k hk (fun e => hn (e ▸ h1)) (fun e => hn (h2 k e.symm))⟩
theorem Moved.refl (w : World) (v : Value) : Moved w v v := fun k hk => .inl hk
/-- The document's heap behind a call on the program's. -/
theorem Ref.Heap.kept {B : Nat} {w w' : World} {hb rb f : Nat} {o : Int} {v u : Value} {l : List (Th HT.K)} {L : List HT.K} {nx : Int} (h : Ref.Heap B w rb o u L) (H : HT.Heap B w hb f v l nx) (F : Fr w w' hb v.ownBlock) : Ref.Heap B w' rb o u L :=
  ⟨h.base, F.blk h.blk (blk_ne h.blk H.blk (by decide)) (Ne.symm (ne_blk H.own h.blk (by decide))), F.own h.own (ne_blk h.own H.blk (by decide)) (ne_of_types h.own H.own (by decide)).or⟩
/-- The program's heap behind a call on the document's. -/
theorem HT.Heap.kept {B : Nat} {w w' : World} {hb rb f : Nat} {o : Int} {v u : Value} {l : List (Th HT.K)} {L : List HT.K} {nx : Int} {row : Option Nat} (H : HT.Heap B w hb f v l nx) (h : Ref.Heap B w rb o u L) (F : Fr w w' rb row) (hr : row = u.ownBlock ∨ row = none) : HT.Heap B w' hb f v l nx := by
  refine ⟨H.base, F.blk H.blk (blk_ne H.blk h.blk (by decide)) ?_, F.own H.own (ne_blk H.own h.blk (by decide)) ?_⟩
  · rcases hr with rfl | rfl
    · exact Ne.symm (ne_blk h.own H.blk (by decide))
    · simp
  · rcases hr with rfl | rfl
    · exact (ne_of_types H.own h.own (by decide)).or
    · cases v.ownBlock <;> simp

set_option maxRecDepth 100000 in
set_option maxHeartbeats 2000000 in
theorem step_push {B : Nat} {w : World} {hb rb : Nat} {o : Int} {v u : Value} {M : Nat} (T : Twin B w hb rb o v u M) (hB : B ≤ w.heap.size) (hM : (M + 1) * 24 ≤ 140737488355328) (on key name : Int) :
    Calls Try.prog 10 #[.agg #[.pointer (some ⟨hb, 0, none⟩), .pointer (some ⟨rb, 0, none⟩)], .agg #[.int .i64 1, .int .i64 on, .int .i64 key], .int .i64 name] w fun e w' =>
      e = .returned (.bool true) ∧ ∃ v' u', Twin B w' hb rb o v' u' (M + 1) ∧ Frs w w' (Own hb rb v u) ∧ Moved w v v' ∧ Moved w u u' := by
  obtain ⟨l, R, nx, T⟩ := T
  have a3 : Below w.heap.size w (((w.alloc (.cells #[.pointer (some ⟨hb, 0, none⟩), .pointer (some ⟨rb, 0, none⟩)] 31)).alloc (.cells #[.int .i64 1, .int .i64 on, .int .i64 key] 34)).alloc (.cells #[.int .i64 key, .int .i64 name] 37)) := (((Below.refl _ _).alloc (Nat.le_refl _) _).alloc (by simp) _).alloc (by simp; omega) _
  have hhb := blk_lt T.hp.blk
  have hrb := blk_lt T.rf.blk
  go_enter Try.func10, Try.ntmps10
  go_wp2_with fail
  have k0 : (((w.alloc (.cells #[.pointer (some ⟨hb, 0, none⟩), .pointer (some ⟨rb, 0, none⟩)] 31)).alloc (.cells #[.int .i64 1, .int .i64 on, .int .i64 key] 34)).alloc (.cells #[.int .i64 key, .int .i64 name] 37)).heap[w.heap.size]? = some (.cells #[.pointer (some ⟨hb, 0, none⟩), .pointer (some ⟨rb, 0, none⟩)] 31 (0, 0)) := blk_alloc (blk_alloc (heap_alloc_new _ _) _) _
  have k2 : (((w.alloc (.cells #[.pointer (some ⟨hb, 0, none⟩), .pointer (some ⟨rb, 0, none⟩)] 31)).alloc (.cells #[.int .i64 1, .int .i64 on, .int .i64 key] 34)).alloc (.cells #[.int .i64 key, .int .i64 name] 37)).heap[w.heap.size + 2]? = some (.cells #[.int .i64 key, .int .i64 name] 37 (0, 0)) := by
    have := heap_alloc_new ((w.alloc (.cells #[.pointer (some ⟨hb, 0, none⟩), .pointer (some ⟨rb, 0, none⟩)] 31)).alloc (.cells #[.int .i64 1, .int .i64 on, .int .i64 key] 34)) (.cells #[.int .i64 key, .int .i64 name] 37)
    simpa using this
  generalize (((w.alloc (.cells #[.pointer (some ⟨hb, 0, none⟩), .pointer (some ⟨rb, 0, none⟩)] 31)).alloc (.cells #[.int .i64 1, .int .i64 on, .int .i64 key] 34)).alloc (.cells #[.int .i64 key, .int .i64 name] 37)) = W3 at *
  have H3 := T.hp.below a3
  have R3 := T.rf.below a3
  have hB3 := Nat.le_trans hB a3.size
  have hll : l.length = R.length := T.hs.perm.length_eq
  have hn0 := T.n0
  have hn1 := T.n1
  have hln := T.ln
  refine (HT.push_c (fo_first o) H3 ⟨key, name⟩ hB3 hn0 (by omega) (by omega)).mono ?_
  rintro e w4 ⟨rfl, v', H4, F4, hmv⟩
  have hnb : w.heap.size ≠ hb := by omega
  have hnb2 : w.heap.size + 2 ≠ hb := by omega
  have hnv : ∀ k, v.ownBlock = some k → k < w.heap.size := fun k hk => (T.hp.own.lt k hk).2
  have hnu : ∀ k, u.ownBlock = some k → k < w.heap.size := fun k hk => (T.rf.own.lt k hk).2
  have k0' := F4.blk k0 hnb (fun e => by have := hnv _ e.symm; omega)
  have k2' := F4.blk k2 hnb2 (fun e => by have := hnv _ e.symm; omega)
  have R4 := R3.kept H3 F4
  have hsz4 : w.heap.size + 2 < w4.heap.size := blk_lt k2'
  have c0 := blk_cell k0' 1
  have c2 := blk_cell k2' 0
  have c3 := blk_cell k2' 1
  simp at c0 c2 c3
  have HF4 := Lib.hid (show Frs w w4 (Own hb rb v u) from (Frs.of_below _ a3).trans (Frs.of_fr F4 (Own hb rb v u) (.inl rfl) (fun k hk => .inr (.inr (.inl hk)))) (fun _ _ h => h))
  have hmv2 : Moved w v v' := fun k hk => by
    rcases moved_of hmv k hk with h | h
    · exact .inl h
    · right; have := a3.size; omega
  have hB4 : B ≤ w4.heap.size := Nat.le_trans hB3 F4.size
  have HLL := Lib.hid hll
  clear k0 k2 H3 R3 F4 hmv k2' hll hB3
  go_wp2_with fail
  refine (Ref.push_c R4 ⟨key, name⟩ hB4 (by simp; omega)).mono ?_
  rintro e w5 ⟨rfl, u', R5, F5, hmu⟩
  have H5 := H4.kept R4 F5 (.inl rfl)
  have HF5 := Lib.hid (show Frs w w5 (Own hb rb v u) from HF4.out.trans (Frs.of_fr F5 (fun k => k = rb ∨ u.ownBlock = some k) (.inl rfl) (fun k hk => .inr hk)) (fun b _ h => by
    rcases h with h | h
    · exact .inr (.inl h)
    · exact .inr (.inr (.inr h))))
  have hmu2 : Moved w u u' := fun k hk => by
    rcases hmu k hk with h | h
    · exact .inl h
    · right; have := a3.size; omega
  have HS5 := Lib.hid (T.hs.push (keyOf o) ⟨key, name⟩)
  have hmap : (R.map (·.v)) ++ [(⟨key, name⟩ : HT.K)] = (R ++ [(⟨⟨key, name⟩, nx⟩ : Th HT.K)]).map (·.v) := by simp
  rw [hmap] at R5
  have k5 := F5.blk k0' (by omega) (fun e => by have := hnu _ e.symm; omega)
  have c50 := blk_cell k5 0
  have c51 := blk_cell k5 1
  obtain ⟨au, cu, hu'⟩ := R5.shape
  have cr := blk_cell R5.blk 1
  rw [hu'] at cr
  have hlen : ((push (byKey (keyOf o)) l ⟨key, name⟩ nx).length : Int) = (((R ++ [(⟨⟨key, name⟩, nx⟩ : Th HT.K)]).map (·.v)).length : Int) := by rw [push_length]; simp; have := HLL.out; omega
  have HLN := Lib.hid hlen
  have HU := Lib.hid hu'
  simp at c50 c51
  simp only [List.getElem?_toArray, List.getElem?_cons_succ, List.getElem?_cons_zero] at cr
  clear H4 R4 F5 hmu hmap k5 k0' hlen hu' c0 c2 c3
  generalize hq : ((R ++ [(⟨⟨key, name⟩, nx⟩ : Th HT.K)]).map (·.v)).length = q at *
  have HQ := Lib.hid hq
  clear hq
  go_wp2
  go_quiet ((go_at_call 23; exact (HT.len_c (H5.below (below_drewN (Below.refl _ _) _))).mono fun _ _ ⟨he, hm⟩ => ⟨by rw [he, HLN.out], _, hm.symm⟩))
  go_wp2
  go_ret
  refine ⟨by simp, v', u', ⟨_, _, _, H5.below (below_drewN (Below.refl _ _) _), R5.below (below_drewN (Below.refl _ _) _), HS5.out, by omega, by omega, by simp; omega⟩, HF5.out.trans (Frs.of_below (Own hb rb v u) (below_drewN (Below.refl _ _) _)) (fun _ _ h => h), hmv2, hmu2⟩
end Go.Proofs.Ytcppiidfaaafeaa
