/- Len, Peek, New: the contracts. -/
import Derived.Test.YtcppiidfaaafeaaHTPush
import Derived.Laws.EntriesVeiled
set_option linter.unusedVariables false
set_option linter.unusedSimpArgs false
namespace Go.Proofs.Ytcppiidfaaafeaa
open Go.RowKit
namespace HT
open Pl

set_option maxHeartbeats 400000 in
theorem len_c {B : Nat} {w : World} {hb f : Nat} {v : Value} {l : List (Th K)} {nx : Int} (H : Heap B w hb f v l nx) :
    Calls Try.prog 23 #[.pointer (some ⟨hb, 0, none⟩)] w fun e w' => e = .returned (.int .i64 l.length) ∧ w = w' := by
  obtain ⟨a, c, rfl⟩ := H.shape
  have h1 := blk_cell H.blk 1
  simp at h1
  clear H
  go_enter Try.func23, Try.ntmps23
  go_wp2
  go_ret
  exact ⟨rfl, rfl⟩
theorem len_nil (w : World) : Calls Try.prog 23 #[.pointer none] w fun e w' => e = .returned (.int .i64 0) ∧ w = w' := by
  go_enter Try.func23, Try.ntmps23
  go_wp2
  go_ret
  exact ⟨rfl, rfl⟩
set_option maxHeartbeats 400000 in
theorem peek_nil (w : World) : Calls Try.prog 36 #[.pointer none] w fun e w' => e = .returned (.tuple #[vt ⟨0, 0⟩, .bool false]) ∧ Below w.heap.size w w' := by
  go_enter Try.func36, Try.ntmps36
  go_wp2
  exact bodyPost_ret (v := .tuple #[.agg #[.int .i64 0, .int .i64 0], .bool false]) (by simp [results, Try.results36, go_sem]) rfl ⟨rfl, by first | exact (Below.refl _ _).alloc (Nat.le_refl _) _ | exact ((Below.refl _ _).alloc (Nat.le_refl _) _).alloc (by simp) _⟩
set_option maxHeartbeats 400000 in
theorem peek_no {B : Nat} {w : World} {hb f : Nat} {v : Value} {nx : Int} (H : Heap B w hb f v [] nx) :
    Calls Try.prog 36 #[.pointer (some ⟨hb, 0, none⟩)] w fun e w' => e = .returned (.tuple #[vt ⟨0, 0⟩, .bool false]) ∧ Below w.heap.size w w' := by
  obtain ⟨a, c, rfl⟩ := H.shape
  have hbs := blk_lt H.blk
  have h1 := blk_cell H.blk 1
  simp at h1
  clear H
  go_enter Try.func36, Try.ntmps36
  go_wp2
  exact bodyPost_ret (v := .tuple #[.agg #[.int .i64 0, .int .i64 0], .bool false]) (by simp [results, Try.results36, go_sem]) rfl ⟨rfl, by first | exact (Below.refl _ _).alloc (Nat.le_refl _) _ | exact ((Below.refl _ _).alloc (Nat.le_refl _) _).alloc (by simp) _⟩
set_option maxHeartbeats 400000 in
theorem peek_yes {B : Nat} {w : World} {hb f : Nat} {v : Value} {l : List (Th K)} {nx : Int} (H : Heap B w hb f v l nx) (h0 : 0 < l.length) :
    Calls Try.prog 36 #[.pointer (some ⟨hb, 0, none⟩)] w fun e w' => e = .returned (.tuple #[vt l[0].v, .bool true]) ∧ Below w.heap.size w w' := by
  obtain ⟨g, c, rfl, hBg, hg, hne, hcap⟩ := H.form h0
  obtain ⟨c0, c1, c2⟩ := H.at_ 0 h0
  have hbs := blk_lt H.blk
  have h1 := blk_cell H.blk 1
  simp at h1
  clear H
  generalize l[0] = x at *
  generalize l.length = n at *
  obtain ⟨⟨xk, xn⟩, xo⟩ := x
  simp only [Nat.zero_mul, Nat.zero_add] at c0 c1 c2
  have hn : ((n : Int) == 0) = false := by simp; omega
  have hn2 : (n == 0) = false := by simp; omega
  go_enter Try.func36, Try.ntmps36
  go_wp2
  exact bodyPost_ret (v := .tuple #[.agg #[.int .i64 xk, .int .i64 xn], .bool true]) (by simp [results, Try.results36, go_sem]) rfl ⟨rfl, by first | exact (Below.refl _ _).alloc (Nat.le_refl _) _ | exact ((Below.refl _ _).alloc (Nat.le_refl _) _).alloc (by simp) _⟩
theorem new_c {B : Nat} (f : Nat) (w : World) (hB : B ≤ w.heap.size) :
    Calls Try.prog 19 #[.func (.func f) #[] #[]] w fun e w' => e = .returned (.pointer (some ⟨w.heap.size, 0, none⟩)) ∧ Heap B w' w.heap.size f (.slice none 0 0) [] 0 ∧ Below w.heap.size w w' := by
  go_enter Try.func19, Try.ntmps19
  go_wp2
  go_ret
  refine ⟨rfl, ⟨hB, heap_alloc_new _ _, World.ownsRow_nil _ _ _ _⟩, (Below.refl _ _).alloc (Nat.le_refl _) _⟩

end HT
end Go.Proofs.Ytcppiidfaaafeaa
