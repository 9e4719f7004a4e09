/- The document's heap: Copy: the contract. -/
import Derived.Test.YtcppiidfaaafeaaRef3
import Derived.Test.YtcppiidfaaafeaaWords
set_option linter.unusedVariables false
set_option linter.unusedSimpArgs false
namespace Go.Proofs.Ytcppiidfaaafeaa
open Go.RowKit Pl
namespace Ref
set_option maxRecDepth 100000 in
set_option maxHeartbeats 1000000 in
theorem copy_c {B : Nat} {w : World} {rb : Nat} {o1 : Int} {v : Value} {L : List K} (H : Heap B w rb o1 v L) (hn : L.length * 16 ≤ 140737488355328) :
    Calls Try.prog 9 #[.pointer (some ⟨rb, 0, none⟩)] w fun e w' => ∃ nb v', e = .returned (.pointer (some ⟨nb, 0, none⟩)) ∧ Heap w.heap.size w' nb o1 v' L ∧ Below w.heap.size w w' := by
  obtain ⟨i0, hi0, hz0, hz1, hz2⟩ := info_parts info
  obtain ⟨a, c, rfl⟩ := H.shape
  have h0 := blk_cell H.blk 0
  have h1 := blk_cell H.blk 1
  have hrb := blk_lt H.blk
  have hrb1 : rb < w.heap.size + 1 := by omega
  simp at h0 h1
  have hrd : Reads w w.heap.size 2 a L.length (flat L) := Reads.of_own H.own
  have hone := flat_one L
  have hca0 : ∀ o, (w.alloc o).cell? ⟨rb, 0, none⟩ = some (.int .i64 o1) := fun o => by rw [World.cell?_alloc_past _ _ _ hrb]; exact h0
  have hca1 : ∀ o, (w.alloc o).cell? ⟨rb, 1, none⟩ = some (.slice a L.length c) := fun o => by rw [World.cell?_alloc_past _ _ _ hrb]; exact h1
  go_enter Try.func9, Try.ntmps9
  go_wp2_with fail
  go_region_law
    ((refine step_append_any _ (by rfl) _ _ _ (by rfl) w.heap.size 37 i0 _ 2 16 Try.underlying27 hi0 hz0 hz1 hz2 rfl (by omega) (.slice (some ⟨w.heap.size, 0, none⟩) 0 0) 0 [] (by rfl) (World.ownsRow_made w.drew #[] 0 (Nat.le_refl _) (by decide) (by rfl)) w.heap.size a L.length c (flat L) (by rfl) (hrd.drew.alloc (Nat.le_refl _) _) hone (by unfold maxLen; omega) (by omega) (by simp) ?_; intro v1 w1 hown1 hgrow hat; obtain ⟨a1, c1, rfl⟩ := own_shape hown1; have e0 := (hgrow.cell_far ⟨rb, 0, none⟩ (by simp; omega) (by simp [Value.ownBlock]; omega)).trans (hca0 _); have e1 := (hgrow.cell_far ⟨rb, 1, none⟩ (by simp; omega) (by simp [Value.ownBlock]; omega)).trans (hca1 _)))
  all_goals
    go_wp2
    go_ret
    simp only [Nat.zero_add, List.nil_append] at hown1
    refine ⟨w1.heap.size, .slice a1 L.length c1, rfl, ?_, ?_⟩
    · have hsz : w.heap.size ≤ w1.heap.size := Nat.le_trans (by simp) hgrow.size
      refine ⟨hsz, heap_alloc_new _ _, ?_⟩
      have := hown1.alloc (.cells #[.int .i64 o1, .slice a1 L.length c1] 29)
      exact this
    · refine Below.alloc (Below.grown (((Below.refl _ _).alloc (Nat.le_refl _) _).drew) hgrow (by simp) (fun k hk => by simp [Value.ownBlock] at hk; omega)) (Nat.le_trans (by simp) hgrow.size) _
end Ref
end Go.Proofs.Ytcppiidfaaafeaa
