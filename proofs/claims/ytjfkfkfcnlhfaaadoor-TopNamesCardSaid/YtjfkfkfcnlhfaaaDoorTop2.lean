/- TopNames: the law's own walk. -/
import Derived.Test.YtjfkfkfcnlhfaaaDoorTop1
set_option linter.unusedVariables false
set_option linter.unusedSimpArgs false
namespace Go.Proofs.YtjfkfkfcnlhfaaaDoor
open Go.RowKit
def zA : List Int := [0, 1, 2, 3, 10, 11, 12, 20, 21, 22, 23, 24, 25, 26, 27, 28, 30, 31, 32, 40, 41, 42, 43, 44, 45, 46, 47, 48, 50]
def zC : List Int := [3, 8, 24, 4, 48, 16, 16, 64, 2048, 256, 64, 2147483647, 65536, 2048, 1, 2, 3, 4, 5, 6, 7, 8]
def oA : Obj := .cells #[.int .i64 0, .int .i64 1, .int .i64 2, .int .i64 3, .int .i64 10, .int .i64 11, .int .i64 12, .int .i64 20, .int .i64 21, .int .i64 22, .int .i64 23, .int .i64 24, .int .i64 25, .int .i64 26, .int .i64 27, .int .i64 28, .int .i64 30, .int .i64 31, .int .i64 32, .int .i64 40, .int .i64 41, .int .i64 42, .int .i64 43, .int .i64 44, .int .i64 45, .int .i64 46, .int .i64 47, .int .i64 48, .int .i64 50] 3
theorem oA_eq : oA = .cells (zA.map (fun n => Value.int .i64 n)).toArray 3 (0, 0) := rfl
theorem oA_lit : (Obj.cells #[.int .i64 0, .int .i64 1, .int .i64 2, .int .i64 3, .int .i64 10, .int .i64 11, .int .i64 12, .int .i64 20, .int .i64 21, .int .i64 22, .int .i64 23, .int .i64 24, .int .i64 25, .int .i64 26, .int .i64 27, .int .i64 28, .int .i64 30, .int .i64 31, .int .i64 32, .int .i64 40, .int .i64 41, .int .i64 42, .int .i64 43, .int .i64 44, .int .i64 45, .int .i64 46, .int .i64 47, .int .i64 48, .int .i64 50] 3) = oA := rfl
def oC : Obj := .cells #[.int .i64 3, .int .i64 8, .int .i64 24, .int .i64 4, .int .i64 48, .int .i64 16, .int .i64 16, .int .i64 64, .int .i64 2048, .int .i64 256, .int .i64 64, .int .i64 2147483647, .int .i64 65536, .int .i64 2048, .int .i64 1, .int .i64 2, .int .i64 3, .int .i64 4, .int .i64 5, .int .i64 6, .int .i64 7, .int .i64 8] 3
theorem oC_eq : oC = .cells (zC.map (fun n => Value.int .i64 n)).toArray 3 (0, 0) := rfl
theorem oC_lit : (Obj.cells #[.int .i64 3, .int .i64 8, .int .i64 24, .int .i64 4, .int .i64 48, .int .i64 16, .int .i64 16, .int .i64 64, .int .i64 2048, .int .i64 256, .int .i64 64, .int .i64 2147483647, .int .i64 65536, .int .i64 2048, .int .i64 1, .int .i64 2, .int .i64 3, .int .i64 4, .int .i64 5, .int .i64 6, .int .i64 7, .int .i64 8] 3) = oC := rfl
set_option maxRecDepth 100000 in
set_option maxHeartbeats 1000000 in
theorem names_c (w : World) : Calls Tryd.prog 3 #[] w fun e w' => e = .returned (.bool true) ∧ Below w.heap.size w w' := by
  go_enter Tryd.func3, Tryd.ntmps3
  go_upto_region 5 with fail
  have b4 : Below w.heap.size w ((((w.alloc oA).alloc oA).alloc oC).alloc oC) := ((((Below.refl _ _).alloc (Nat.le_refl _) _).alloc (by simp) _).alloc (by simp; omega) _).alloc (by simp; omega) _
  have s1 : (w.alloc oA).heap.size = w.heap.size + 1 := by simp
  have s2 : ((w.alloc oA).alloc oA).heap.size = w.heap.size + 1 + 1 := by simp
  have s3 : (((w.alloc oA).alloc oA).alloc oC).heap.size = w.heap.size + 1 + 1 + 1 := by simp
  have h0 : ((((w.alloc oA).alloc oA).alloc oC).alloc oC).heap[w.heap.size]? = some oA := blk_alloc (blk_alloc (blk_alloc (heap_alloc_new _ _) _) _) _
  have h1 : ((((w.alloc oA).alloc oA).alloc oC).alloc oC).heap[w.heap.size + 1]? = some oA := blk_alloc (blk_alloc (by rw [← s1]; exact heap_alloc_new _ _) _) _
  have h2 : ((((w.alloc oA).alloc oA).alloc oC).alloc oC).heap[w.heap.size + 1 + 1]? = some oC := blk_alloc (by rw [← s2]; exact heap_alloc_new _ _) _
  have h3 : ((((w.alloc oA).alloc oA).alloc oC).alloc oC).heap[w.heap.size + 1 + 1 + 1]? = some oC := by rw [← s3]; exact heap_alloc_new _ _
  rw [oA_lit, oC_lit]
  clear s1 s2 s3
  obtain ⟨q0, hq0⟩ : ∃ q, q = w.heap.size := ⟨_, rfl⟩
  have HQ := Lib.hid hq0
  rw [← hq0] at h0 h1 h2 h3 ⊢
  clear hq0
  generalize ((((w.alloc oA).alloc oA).alloc oC).alloc oC) = W at *
  have l0 := blk_lt h0
  have l1 := blk_lt h1
  have l2 := blk_lt h2
  have l3 := blk_lt h3
  rw [oA_eq] at h0 h1
  rw [oC_eq] at h2 h3
  have i0 := Lib.hid (Ints.of h0)
  have i1 := Lib.hid (Ints.of h1)
  have i2 := Lib.hid (Ints.of h2)
  have i3 := Lib.hid (Ints.of h3)
  have b4 := Lib.hid b4
  clear h0 h1 h2 h3
  have eA : (29 : Nat) = zA.length := by decide
  have eC : (22 : Nat) = zC.length := by decide
  have EA := Lib.hid eA
  have EC := Lib.hid eC
  clear eA eC
  go_wp2_with (first
    | (go_at_call 5; have hb3 := b3; refine (err_0 _).mono ?_; rintro e w4 ⟨rfl, b5⟩)
    | (go_at_call 5; refine (err_28 _).mono ?_; rintro e w3 ⟨rfl, b3⟩)
    | (go_at_call 4; refine (same_c j2.out j3.out EC.out (by omega)).mono ?_; rintro e w2 ⟨rfl, b2⟩)
    | (go_at_call 4; refine (same_c i0.out i1.out EA.out (by omega)).mono ?_; rintro e w1 ⟨rfl, b1⟩; have j2 := Lib.hid (i2.out.below l2 b1); have j3 := Lib.hid (i3.out.below l3 b1)))
  go_ret
  have B1 := b1.trans (b2.mono b1.size)
  have B2 := B1.trans (b3.mono B1.size)
  have B3 := B2.trans (b5.mono B2.size)
  exact ⟨rfl, b4.out.trans (B3.mono b4.out.size)⟩
end Go.Proofs.YtjfkfkfcnlhfaaaDoor
