/- taken: the document's examples hold. -/
import Derived.Test.YtcppiidfaaafeaaOrds
import Derived.Test.YtcppiidfaaafeaaHIPop
set_option linter.unusedVariables false
set_option linter.unusedSimpArgs false
namespace Go.Proofs.Ytcppiidfaaafeaa
open Go.RowKit
open Pl
namespace HI
theorem t1 : push (byKey id) [] 3 0 = [(⟨3, 0⟩ : Th Int)] := by simp [push, up]
theorem t2 : push (byKey id) [⟨3, 0⟩] 1 1 = [(⟨1, 1⟩ : Th Int), ⟨3, 0⟩] := by simp [push, up, aheadT, byKey, swap]
theorem t3 : push (byKey id) [⟨1, 1⟩, ⟨3, 0⟩] 2 2 = [(⟨1, 1⟩ : Th Int), ⟨3, 0⟩, ⟨2, 2⟩] := by simp [push, up, aheadT, byKey, swap]
theorem t4 : rest (byKey id) [(⟨1, 1⟩ : Th Int), ⟨3, 0⟩, ⟨2, 2⟩] = [⟨2, 2⟩, ⟨3, 0⟩] := by simp [rest, down, aheadT, byKey, swap, kid]
theorem Heap.row_ge {B : Nat} {w : World} {hb f : Nat} {v : Value} {l : List (Th Int)} {nx : Int} (h : Heap B w hb f v l nx) : ∀ k, v.ownBlock = some k → B ≤ k := fun k hk => (h.own.lt k hk).1
theorem Heap.fr_below {B : Nat} {w w' : World} {hb f : Nat} {v : Value} {l : List (Th Int)} {nx : Int} (h : Heap B w hb f v l nx) (F : Fr w w' hb v.ownBlock) (hB : B ≤ w.heap.size) : Below B w w' :=
  F.below hB h.base h.row_ge
set_option maxHeartbeats 400000 in
theorem copy_nil (w : World) : Calls Try.prog 30 #[.pointer none] w fun e w' => e = .returned (.pointer none) ∧ w = w' := by
  go_enter Try.func30, Try.ntmps30
  go_wp2
  go_ret
  exact ⟨rfl, rfl⟩
end HI
set_option maxHeartbeats 1000000 in
theorem taken_c (w : World) : Calls Try.prog 6 #[] w fun e w' => e = .returned (.bool true) ∧ Below w.heap.size w w' := by
  obtain ⟨B, hB⟩ : ∃ B, B = w.heap.size := ⟨_, rfl⟩
  rw [← hB]
  have HBe := Lib.hid hB
  have hBl : B ≤ w.heap.size := by omega
  clear hB
  go_enter Try.func6, Try.ntmps6
  go_wp2_with fail
  refine (HI.new_c (B := B) 25 w hBl).mono ?_
  rintro e w1 ⟨rfl, H, b1⟩
  go_wp2_with fail
  refine (HI.push_nil 1 _).mono ?_
  rintro e w2 ⟨rfl, b2⟩
  go_wp2_with fail
  refine (HI.pop_nil _).mono ?_
  rintro e w3 ⟨rfl, b3⟩
  go_wp2_with fail
  refine (HI.peek_nil _).mono ?_
  rintro e w4 ⟨rfl, b4⟩
  go_wp2_with fail
  refine (HI.len_nil _).mono ?_
  rintro e w5 ⟨rfl, rfl⟩
  go_wp2_with fail
  refine (HI.copy_nil _).mono ?_
  rintro e w5 ⟨rfl, rfl⟩
  have H4 := ((H.below b2).below b3).below b4
  have c1 : Below B w w4 := (((b1.trans ((b2.mono b1.size))).trans (b3.mono (Nat.le_trans b1.size b2.size))).trans (b4.mono (Nat.le_trans (Nat.le_trans b1.size b2.size) b3.size))).mono hBl
  clear H b1 b2 b3 b4
  go_wp2_with fail
  refine (HI.push_c less_first H4 3 (Nat.le_trans hBl c1.size) (by decide) (by decide) (by simp)).mono ?_
  rintro e w5 ⟨rfl, v5, H5, F5, _⟩
  rw [HI.t1] at H5
  have c2 := c1.trans (H4.fr_below F5 (Nat.le_trans hBl c1.size))
  clear H4 F5 c1
  go_wp2_with fail
  refine (HI.push_c less_first H5 1 (Nat.le_trans hBl c2.size) (by decide) (by decide) (by simp)).mono ?_
  rintro e w6 ⟨rfl, v6, H6, F6, _⟩
  rw [show (0 : Int) + 1 = 1 from rfl] at H6
  rw [HI.t2] at H6
  have c3 := c2.trans (H5.fr_below F6 (Nat.le_trans hBl c2.size))
  clear H5 F6 c2
  go_wp2_with fail
  refine (HI.push_c less_first H6 2 (Nat.le_trans hBl c3.size) (by decide) (by decide) (by simp)).mono ?_
  rintro e w7 ⟨rfl, v7, H7, F7, _⟩
  rw [show (1 : Int) + 1 = 2 from rfl] at H7
  rw [HI.t3] at H7
  have c4 := c3.trans (H6.fr_below F7 (Nat.le_trans hBl c3.size))
  clear H6 F7 c3
  go_wp2_with fail
  refine (HI.pop_yes less_first H7 (by simp) (by simp)).mono ?_
  rintro e w8 ⟨rfl, v8, H8, F8, _⟩
  rw [HI.t4] at H8
  have c5 := c4.trans (H7.fr_below F8 (Nat.le_trans hBl c4.size))
  clear H7 F8 c4
  go_wp2_with fail
  refine (HI.peek_yes H8 (by simp)).mono ?_
  rintro e w9 ⟨rfl, b9⟩
  have H9 := H8.below b9
  have c6 := c5.trans (b9.mono (Nat.le_trans hBl c5.size))
  clear H8 b9 c5
  go_wp2_with fail
  refine (HI.len_c H9).mono ?_
  rintro e w10 ⟨rfl, rfl⟩
  go_wp2
  go_ret
  exact ⟨rfl, c6⟩
end Go.Proofs.Ytcppiidfaaafeaa
