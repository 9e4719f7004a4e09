/- The flows: what the document fixes: taken's contract. -/
import Derived.Test.YtfbejjobejdenaaFNew
import Derived.Test.YtfbejjobejdenaaFLoop
set_option linter.unusedVariables false
set_option linter.unusedSimpArgs false
namespace Go.Proofs.Ytfbejjobejdenaa.PCodeSays
open Go.RowKit Go.Proofs.YtfbejjobejdenaaW.PrintWords Go.Proofs.YtfbejjobejdenaaW.PrintLast Go.Proofs.YtfbejjobejdenaaW.PrintMore
theorem new5 (W : World) : Calls Try.prog 21 #[.agg #[.int .i64 5, .int .i64 1, .int .i64 1, .slice none 0 0, .int .u64 0, .int .u64 1, .int .u64 0, .int .u64 3, .slice none 0 0, .bool false]] W fun e w' =>
    e = .returned (.tuple #[.iface 74 (.agg #[.int .u64 0, .int .u64 1, .int .u64 0, .int .u64 3]), .int .i64 0]) ∧ Below W.heap.size W w' := by
  refine (new_c (l := []) (A := none) (c := 0) 5 1 1 ⟨0, 1, 0⟩ 3 (.slice none 0 0) false (Row.nil W none) (by simp) rfl).mono ?_
  rintro e w' ⟨v, rfl, b, h⟩
  refine ⟨?_, b⟩
  have hE : newE 5 [] = 0 := by decide
  rcases h with ⟨_, h⟩ | ⟨h, _⟩
  · rcases h with ⟨h, _⟩ | ⟨h, _⟩ | ⟨h, _⟩ | ⟨_, h⟩
    · cases h
    · cases h
    · cases h
    · rw [h, hE]
  · exact absurd hE h
theorem new6 (W : World) : Calls Try.prog 21 #[.agg #[.int .i64 6, .int .i64 1, .int .i64 1, .slice none 0 0, .int .u64 0, .int .u64 0, .int .u64 0, .int .u64 0, .slice none 0 0, .bool false]] W fun e w' =>
    e = .returned (.tuple #[.nilIface, .int .i64 20]) ∧ Below W.heap.size W w' := by
  refine (new_c (l := []) (A := none) (c := 0) 6 1 1 ⟨0, 0, 0⟩ 0 (.slice none 0 0) false (Row.nil W none) (by simp) rfl).mono ?_
  rintro e w' ⟨v, rfl, b, h⟩
  refine ⟨?_, b⟩
  have hE : newE 6 [] = 20 := by decide
  rcases h with ⟨h, _⟩ | ⟨_, h⟩
  · rw [hE] at h; cases h
  · rw [h, hE]
set_option maxRecDepth 100000 in
set_option maxHeartbeats 2000000 in
theorem taken_c (w : World) : Calls Try.prog 19 #[] w fun e w' => e = .returned (.bool true) ∧ Below w.heap.size w w' := by
  have hk0 := fun W => kind_c .nilIface (by simp) W
  have hk5 := fun W => kind_c (.iface 74 (.agg #[.int .u64 0, .int .u64 1, .int .u64 0, .int .u64 3])) (.inr (.inr (.inr (.inl ⟨_, _, _, _, rfl⟩)))) W
  have hd1 := fun W => do_loop_yes W 0 1 0 3 9 2 5 7 8 (by simp [T3.ok]) (by simp [T3.ok]) (by simp [T3.fits]) (by simp [loopOk])
  have hd2 := fun W => do_loop_no W 0 1 0 3 9 3 5 7 8 (by simp [T3.ok]) (by simp [T3.ok]) (by simp [T3.fits]) (by simp [loopOk])
  simp only [kindOf] at hk0 hk5
  simp only [show (0 + 9 : Int) = 9 from rfl, show (1 + 2 : Int) = 3 from rfl, show (0 + 5 : Int) = 5 from rfl] at hd1
  go_enter Try.func19, Try.ntmps19
  go_upto_region 2 with (go_at_call 21; refine (new5 _).mono ?_; rintro e w1 ⟨rfl, b1⟩)
  go_upto_region 3 with (go_at_call 21; refine (new6 _).mono ?_; rintro e w2 ⟨rfl, b2⟩)
  go_upto_region 5 with fail
  refine (hk0 _).mono ?_
  rintro e w3 ⟨rfl, b3⟩
  go_upto_region 5 with fail
  refine (hk5 _).mono ?_
  rintro e w4 ⟨rfl, b4⟩
  go_upto_region 7 with fail
  refine (hd1 _).mono ?_
  rintro e w5 ⟨rfl, b5⟩
  have x5 : w5.heap[w4.heap.size]? = some (.cells #[.int .u64 7, .int .u64 8] 25 (0, 0)) := (b5.block _ (by simp)).trans (alloc_at rfl)
  have l5 : w4.heap.size < w5.heap.size := by have := b5.size; simp at this; omega
  have p0 := blk_cell x5 0
  have p1 := blk_cell x5 1
  simp at p0 p1
  go_upto_region 8 with fail
  refine (hd2 _).mono ?_
  rintro e w6 ⟨rfl, b6⟩
  have x6 : w6.heap[w4.heap.size]? = some (.cells #[.int .u64 7, .int .u64 8] 25 (0, 0)) := (b6.block _ (by simp; omega)).trans (blk_alloc (blk_alloc x5 _) _)
  have x7 : w6.heap[w5.heap.size]? = some (.cells #[.int .u64 9, .int .u64 3, .int .u64 5] 58 (0, 0)) := (b6.block _ (by simp; omega)).trans (blk_alloc (alloc_at rfl) _)
  have x8 : w6.heap[w5.heap.size + 1]? = some (.cells #[.int .u64 7, .int .u64 8] 25 (0, 0)) := (b6.block _ (by simp)).trans (alloc_at (by simp))
  have l6 : w5.heap.size + 1 < w6.heap.size := by have := b6.size; simp at this; omega
  have l7 : w5.heap.size < w6.heap.size := by omega
  have l8 : w4.heap.size < w6.heap.size := by omega
  have l9 : w4.heap.size < w6.heap.size + 1 := by omega
  have l10 : w5.heap.size < w6.heap.size + 1 := by omega
  have l11 : w5.heap.size + 1 < w6.heap.size + 1 := by omega
  have q0 := blk_cell x6 0
  have q1 := blk_cell x6 1
  have q2 := blk_cell x7 0
  have q3 := blk_cell x7 1
  have q4 := blk_cell x7 2
  have q5 := blk_cell x8 0
  have q6 := blk_cell x8 1
  simp at q0 q1 q2 q3 q4 q5 q6
  clear p0 p1 x5 x6 x7 x8
  go_wp2_with fail
  trace_state
  go_ret
  have k4 := (b1.trans (b2.mono b1.size)).trans ((b3.trans (b4.mono b3.size)).mono (Nat.le_trans b1.size b2.size))
  have k5 := (k4.alloc k4.size (.cells #[.int .u64 7, .int .u64 8] 25)).trans (b5.mono (by simp; have := k4.size; omega))
  have k6 := ((k5.alloc k5.size (.cells #[.int .u64 9, .int .u64 3, .int .u64 5] 58)).alloc (by simp; have := k5.size; omega) (.cells #[.int .u64 7, .int .u64 8] 25)).trans (b6.mono (by simp; have := k5.size; omega))
  exact ⟨rfl, (k6.alloc k6.size _).alloc (by simp; have := k6.size; omega) _⟩
end Go.Proofs.Ytfbejjobejdenaa.PCodeSays
