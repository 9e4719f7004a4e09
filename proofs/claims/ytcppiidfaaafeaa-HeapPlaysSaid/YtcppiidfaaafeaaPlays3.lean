/- HeapPlays: the walk where the script is empty. -/
import Derived.Test.YtcppiidfaaafeaaPlays2
set_option linter.unusedVariables false
set_option linter.unusedSimpArgs false
namespace Go.Proofs.Ytcppiidfaaafeaa
open Go.RowKit Pl
set_option maxRecDepth 100000 in
set_option maxHeartbeats 4000000 in
theorem plays_zero (kind : Int) (A : Option Addr) (c : Nat) (w : World) :
    Calls Try.prog 3 #[.int .i64 kind, .slice A 0 c] w fun e w' => e = .returned (.bool true) ∧ Below w.heap.size w w' := by
  obtain ⟨B, hB⟩ : ∃ B, B = w.heap.size := ⟨_, rfl⟩
  rw [← hB]
  have hBl : B ≤ w.heap.size := by omega
  clear hB
  go_enter Try.func3, Try.ntmps3
  go_wp2_with fail
  refine (taken_c _).mono ?_
  rintro e w1 ⟨rfl, b1⟩
  have c1 : Below B w w1 := b1.mono hBl
  clear b1
  go_wp2_with fail
  obtain ⟨o, ho⟩ : ∃ o, o = bits .and .i64 kind 3 := ⟨_, rfl⟩
  rw [← ho]
  refine (made_c (B := B) o w1 (Nat.le_trans hBl c1.size)).mono ?_
  rintro e w2 ⟨rfl, H2, b2⟩
  have hB2 := Nat.le_trans hBl (Nat.le_trans c1.size b2.size)
  have c2 := c1.trans (b2.mono (Nat.le_trans hBl c1.size))
  obtain ⟨hb, hhb⟩ : ∃ hb, hb = w1.heap.size := ⟨_, rfl⟩
  rw [← hhb] at H2 ⊢
  clear hhb
  have HO := Lib.hid ho
  clear ho b2 c1
  obtain ⟨rb, hrb⟩ : ∃ rb, rb = w2.heap.size := ⟨_, rfl⟩
  go_wp2_with fail
  rw [← HO.out]
  -- the first pair
  have a3 : Below w2.heap.size w2 ((w2.alloc (.cells #[.int .i64 o, .slice none 0 0] 29)).alloc (.cells #[.pointer (some ⟨hb, 0, none⟩), .pointer (some ⟨w2.heap.size, 0, none⟩)] 31)) := ((Below.refl _ _).alloc (Nat.le_refl _) _).alloc (by simp) _
  have c3 := c2.trans (a3.mono hB2)
  have hP : Pairs B ((w2.alloc (.cells #[.int .i64 o, .slice none 0 0] 29)).alloc (.cells #[.pointer (some ⟨hb, 0, none⟩), .pointer (some ⟨w2.heap.size, 0, none⟩)] 31)) o [⟨hb, w2.heap.size, .slice none 0 0, .slice none 0 0⟩] (.slice (some ⟨w2.heap.size + 1, 0, none⟩) 1 1) 0 := by
    refine ⟨⟨?_, ?_⟩, ?_, by simp, by simp⟩
    · intro i p hp
      cases i with
      | succ i => simp at hp
      | zero =>
        simp at hp; subst hp
        refine ⟨[], [], 0, H2.below a3, ⟨hB2, ?_, World.ownsRow_nil _ _ _ _⟩, holds_nil _ _, by omega, by simp, by simp⟩
        exact blk_alloc (heap_alloc_new _ _) _
    · intro i j p q hij hp hq
      cases i with
      | succ i => simp at hp
      | zero => cases j with
        | succ j => simp at hq
        | zero => exact absurd rfl hij
    · have := World.ownsRow_lit (base := B) (e := 31) (size := 2) (w2.alloc (.cells #[.int .i64 o, .slice none 0 0] 29)) #[.pointer (some ⟨hb, 0, none⟩), .pointer (some ⟨w2.heap.size, 0, none⟩)] 1 (by simp; omega) (by decide) (by rfl)
      simpa [flatP, cP] using this
  generalize ((w2.alloc (.cells #[.int .i64 o, .slice none 0 0] 29)).alloc (.cells #[.pointer (some ⟨hb, 0, none⟩), .pointer (some ⟨w2.heap.size, 0, none⟩)] 31)) = W3 at *
  obtain ⟨p0, p1⟩ := hP.at_ 0 (by simp)
  simp at p0 p1
  have hT := hP.st.tw 0 _ rfl
  obtain ⟨l, R, nx, T⟩ := hT
  obtain ⟨a, cc, hsh⟩ := T.rf.shape
  have hln := T.ln
  have hR : R = [] := List.eq_nil_of_length_eq_zero (by omega)
  subst hR
  have e1 := blk_cell T.rf.blk 1
  simp at e1
  have hrl := blk_lt T.rf.blk
  have HP := Lib.hid hP
  clear a3 H2 c2 hrb hP T hsh hln
  go_wp2_with fail
  refine wp_loop_rounds 1 ?_
  rw [rounds_succ]
  go_wp2_with fail
  refine wp_loop_rounds 2 ?_
  rw [rounds_succ]
  go_wp2_with fail
  refine wp_loop_rounds 2 ?_
  rw [rounds_succ]
  go_wp2_with fail
  refine (step_pop (HP.out.st.tw 0 _ rfl) (Nat.le_trans hBl c3.size) (by omega) 0 0 0).mono ?_
  rintro e w6 ⟨rfl, v', u', T6, F6, m1, m2⟩
  have c7 : Below B w w6 := c3.trans (HP.out.frs_below 0 _ rfl F6 (Nat.le_trans hBl c3.size))
  have h7 := HP.out.step 0 _ rfl T6 (Nat.le_refl _) F6 m1 m2
  go_wp2_with fail
  rw [rounds_succ]
  go_wp2_with fail
  rw [rounds_succ]
  go_wp2_with fail
  go_ret
  exact ⟨rfl, c7⟩
end Go.Proofs.Ytcppiidfaaafeaa
