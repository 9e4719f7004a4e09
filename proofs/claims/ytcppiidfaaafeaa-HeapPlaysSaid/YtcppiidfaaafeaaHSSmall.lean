/- Len, Peek, New: the contracts. -/
import Derived.Test.YtcppiidfaaafeaaHSPush
import Derived.Laws.EntriesVeiled
set_option linter.unusedVariables false
set_option linter.unusedSimpArgs false
namespace Go.Proofs.Ytcppiidfaaafeaa
open Go.RowKit
namespace HS
open Pl

set_option maxHeartbeats 400000 in
theorem len_c {B : Nat} {w : World} {hb f : Nat} {v : Value} {l : List (Th ByteArray)} {nx : Int} (H : Heap B w hb f v l nx) :
    Calls Try.prog 16 #[.pointer (some ⟨hb, 0, none⟩)] w fun e w' => e = .returned (.int .i64 l.length) ∧ w = w' := by
  obtain ⟨a, c, rfl⟩ := H.shape
  have h1 := blk_cell H.blk 1
  simp at h1
  clear H
  go_enter Try.func16, Try.ntmps16
  go_wp2
  go_ret
  exact ⟨rfl, rfl⟩
theorem len_nil (w : World) : Calls Try.prog 16 #[.pointer none] w fun e w' => e = .returned (.int .i64 0) ∧ w = w' := by
  go_enter Try.func16, Try.ntmps16
  go_wp2
  go_ret
  exact ⟨rfl, rfl⟩
set_option maxHeartbeats 400000 in
theorem peek_nil (w : World) : Calls Try.prog 39 #[.pointer none] w fun e w' => e = .returned (.tuple #[vt ByteArray.empty, .bool false]) ∧ Below w.heap.size w w' := by
  go_enter Try.func39, Try.ntmps39
  go_wp2
  go_ret2
  exact ⟨rfl, Below.refl _ _⟩
set_option maxHeartbeats 400000 in
theorem peek_no {B : Nat} {w : World} {hb f : Nat} {v : Value} {nx : Int} (H : Heap B w hb f v [] nx) :
    Calls Try.prog 39 #[.pointer (some ⟨hb, 0, none⟩)] w fun e w' => e = .returned (.tuple #[vt ByteArray.empty, .bool false]) ∧ Below w.heap.size w w' := by
  obtain ⟨a, c, rfl⟩ := H.shape
  have hbs := blk_lt H.blk
  have h1 := blk_cell H.blk 1
  simp at h1
  clear H
  go_enter Try.func39, Try.ntmps39
  go_wp2
  go_ret2
  exact ⟨rfl, Below.refl _ _⟩
set_option maxHeartbeats 400000 in
theorem peek_yes {B : Nat} {w : World} {hb f : Nat} {v : Value} {l : List (Th ByteArray)} {nx : Int} (H : Heap B w hb f v l nx) (h0 : 0 < l.length) :
    Calls Try.prog 39 #[.pointer (some ⟨hb, 0, none⟩)] w fun e w' => e = .returned (.tuple #[vt l[0].v, .bool true]) ∧ Below w.heap.size w w' := by
  obtain ⟨g, c, rfl, hBg, hg, hne, hcap⟩ := H.form h0
  obtain ⟨c0, c1⟩ := H.at_ 0 h0
  have hbs := blk_lt H.blk
  have h1 := blk_cell H.blk 1
  simp at h1
  clear H
  generalize l[0] = x at *
  generalize l.length = n at *
  obtain ⟨x, xo⟩ := x
  simp only [Nat.zero_mul, Nat.zero_add] at c0 c1
  have hn : ((n : Int) == 0) = false := by simp; omega
  have hn2 : (n == 0) = false := by simp; omega
  go_enter Try.func39, Try.ntmps39
  go_wp2
  go_ret2
  exact ⟨rfl, Below.refl _ _⟩
theorem new_c {B : Nat} (f : Nat) (w : World) (hB : B ≤ w.heap.size) :
    Calls Try.prog 11 #[.func (.func f) #[] #[]] w fun e w' => e = .returned (.pointer (some ⟨w.heap.size, 0, none⟩)) ∧ Heap B w' w.heap.size f (.slice none 0 0) [] 0 ∧ Below w.heap.size w w' := by
  go_enter Try.func11, Try.ntmps11
  go_wp2
  go_ret
  refine ⟨rfl, ⟨hB, heap_alloc_new _ _, World.ownsRow_nil _ _ _ _⟩, (Below.refl _ _).alloc (Nat.le_refl _) _⟩

end HS
end Go.Proofs.Ytcppiidfaaafeaa
