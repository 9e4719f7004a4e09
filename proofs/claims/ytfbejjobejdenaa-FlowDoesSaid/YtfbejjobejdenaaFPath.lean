/- The flows: path.sum, path.On: the contracts. -/
import Derived.Test.YtfbejjobejdenaaCWalk
import Derived.Laws.Externs
set_option linter.unusedVariables false
set_option linter.unusedSimpArgs false
namespace Go.Proofs.Ytfbejjobejdenaa.PCodeSays
open Go.RowKit Go.Proofs.YtfbejjobejdenaaW.PrintWords Go.Proofs.YtfbejjobejdenaaW.PrintLast Go.Proofs.YtfbejjobejdenaaW.PrintMore
theorem add64 (x y : Int) (hx : 0 ≤ x) (hy : 0 ≤ y) (w : World) : Sem.run Try.prog (callFunc 56 #[.int .u64 x, .int .u64 y, .int .u64 0]) w =
    .ok (.value (.tuple #[.int .u64 ((x + y) % 18446744073709551616), .int .u64 ((x + y) / 18446744073709551616)])) w := by
  rw [run_callFunc_extern Try.func56 (by kernel_rfl) (by kernel_rfl) (by kernel_rfl) (e := add64Entry) (by kernel_rfl), run_add64 x y 0 hx hy (by omega) (by omega)]
  simp only [Result.andThen, Int.add_zero]
theorem alloc_at {W : World} {n : Nat} {o : Obj} (h : W.heap.size = n) : (W.alloc o).heap[n]? = some o := by subst h; exact heap_alloc_new _ _
/-- Three numbers: a time, a path. -/
structure T3 where
  a : Int
  b : Int
  c : Int
def T3.ok (t : T3) : Prop := (0 ≤ t.a ∧ t.a < 18446744073709551616) ∧ (0 ≤ t.b ∧ t.b < 18446744073709551616) ∧ (0 ≤ t.c ∧ t.c < 18446744073709551616)
abbrev T3.v (t : T3) : Value := .agg #[.int .u64 t.a, .int .u64 t.b, .int .u64 t.c]
def T3.fits (x y : T3) : Prop := x.a + y.a < 18446744073709551616 ∧ x.b + y.b < 18446744073709551616 ∧ x.c + y.c < 18446744073709551616
def T3.add (x y : T3) : T3 := ⟨x.a + y.a, x.b + y.b, x.c + y.c⟩
abbrev zero3 : Value := .agg #[.int .u64 0, .int .u64 0, .int .u64 0]
section
variable {a b c d e f s1 s2 s3 c1 c2 c3 : Int} (h1 : ∀ W, Sem.run Try.prog (callFunc 56 #[.int .u64 a, .int .u64 d, .int .u64 0]) W = .ok (.value (.tuple #[.int .u64 s1, .int .u64 c1])) W)
    (h2 : ∀ W, Sem.run Try.prog (callFunc 56 #[.int .u64 b, .int .u64 e, .int .u64 0]) W = .ok (.value (.tuple #[.int .u64 s2, .int .u64 c2])) W)
    (h3 : ∀ W, Sem.run Try.prog (callFunc 56 #[.int .u64 c, .int .u64 f, .int .u64 0]) W = .ok (.value (.tuple #[.int .u64 s3, .int .u64 c3])) W)
include h1 h2 h3
set_option maxRecDepth 100000 in
set_option maxHeartbeats 1000000 in
theorem sum_l1 (hg : (IntKind.u64.wrap (IntKind.u64.wrap (c1 + c2) + c3) != 0) = false) (w : World) :
    Calls Try.prog 55 #[.agg #[.int .u64 a, .int .u64 b, .int .u64 c], .agg #[.int .u64 d, .int .u64 e, .int .u64 f]] w fun x w' =>
      x = .returned (.tuple #[.agg #[.int .u64 s1, .int .u64 s2, .int .u64 s3], .bool true]) ∧ Below w.heap.size w w' := by
  go_enter Try.func55, Try.ntmps55
  go_wp2_with fail
  exact bodyPost_ret (v := .tuple #[.agg #[.int .u64 s1, .int .u64 s2, .int .u64 s3], .bool true]) (by simp [results, Try.results55, go_sem]) rfl ⟨rfl, (((Below.refl _ _).alloc (Nat.le_refl _) _).alloc (by simp) _).alloc (by simp; omega) _⟩
set_option maxRecDepth 100000 in
set_option maxHeartbeats 1000000 in
theorem sum_l0 (hg : (IntKind.u64.wrap (IntKind.u64.wrap (c1 + c2) + c3) != 0) = true) (w : World) :
    Calls Try.prog 55 #[.agg #[.int .u64 a, .int .u64 b, .int .u64 c], .agg #[.int .u64 d, .int .u64 e, .int .u64 f]] w fun x w' =>
      x = .returned (.tuple #[zero3, .bool false]) ∧ Below w.heap.size w w' := by
  go_enter Try.func55, Try.ntmps55
  go_wp2_with fail
  exact bodyPost_ret (v := .tuple #[zero3, .bool false]) (by simp [results, Try.results55, go_sem]) rfl ⟨rfl, (((Below.refl _ _).alloc (Nat.le_refl _) _).alloc (by simp) _).alloc (by simp; omega) _⟩
end
section
variable {x y : T3} (hx : x.ok) (hy : y.ok)
include hx hy
theorem sum_yes (h : x.fits y) (w : World) : Calls Try.prog 55 #[x.v, y.v] w fun e w' => e = .returned (.tuple #[(x.add y).v, .bool true]) ∧ Below w.heap.size w w' := by
  obtain ⟨⟨a0, a1⟩, ⟨b0, b1⟩, c0, c1⟩ := hx
  obtain ⟨⟨d0, d1⟩, ⟨e0, e1⟩, f0, f1⟩ := hy
  obtain ⟨g1, g2, g3⟩ := h
  refine sum_l1 (s1 := x.a + y.a) (s2 := x.b + y.b) (s3 := x.c + y.c) (c1 := 0) (c2 := 0) (c3 := 0) (fun W => ?_) (fun W => ?_) (fun W => ?_) (by decide) w
  · rw [add64 _ _ a0 d0, Int.emod_eq_of_lt (by omega) (by omega), Int.ediv_eq_zero_of_lt (by omega) (by omega)]
  · rw [add64 _ _ b0 e0, Int.emod_eq_of_lt (by omega) (by omega), Int.ediv_eq_zero_of_lt (by omega) (by omega)]
  · rw [add64 _ _ c0 f0, Int.emod_eq_of_lt (by omega) (by omega), Int.ediv_eq_zero_of_lt (by omega) (by omega)]
theorem sum_no (h : ¬ x.fits y) (w : World) : Calls Try.prog 55 #[x.v, y.v] w fun e w' => e = .returned (.tuple #[zero3, .bool false]) ∧ Below w.heap.size w w' := by
  obtain ⟨⟨a0, a1⟩, ⟨b0, b1⟩, c0, c1⟩ := hx
  obtain ⟨⟨d0, d1⟩, ⟨e0, e1⟩, f0, f1⟩ := hy
  refine sum_l0 (fun W => add64 _ _ a0 d0 W) (fun W => add64 _ _ b0 e0 W) (fun W => add64 _ _ c0 f0 W) ?_ w
  unfold T3.fits at h
  have q1 : 0 ≤ (x.a + y.a) / 18446744073709551616 ∧ (x.a + y.a) / 18446744073709551616 ≤ 1 := by omega
  have q2 : 0 ≤ (x.b + y.b) / 18446744073709551616 ∧ (x.b + y.b) / 18446744073709551616 ≤ 1 := by omega
  have q3 : 0 ≤ (x.c + y.c) / 18446744073709551616 ∧ (x.c + y.c) / 18446744073709551616 ≤ 1 := by omega
  have q4 : 0 < (x.a + y.a) / 18446744073709551616 + (x.b + y.b) / 18446744073709551616 + (x.c + y.c) / 18446744073709551616 := by omega
  have wr : ∀ z : Int, 0 ≤ z → z < 4 → IntKind.u64.wrap z = z := fun z h1 h2 => by simp [IntKind.wrap, IntKind.bits, IntKind.signed]; omega
  rw [wr ((x.a + y.a) / 18446744073709551616 + (x.b + y.b) / 18446744073709551616) (by omega) (by omega), wr _ (by omega) (by omega)]
  simp; omega
set_option maxHeartbeats 1000000 in
theorem on_yes (h : x.fits y) (w : World) : Calls Try.prog 54 #[x.v, y.v] w fun e w' => e = .returned (.tuple #[(x.add y).v, .bool true]) ∧ Below w.heap.size w w' := by
  have hs := fun w => sum_yes hx hy h w
  obtain ⟨xa, xb, xc⟩ := x
  obtain ⟨ya, yb, yc⟩ := y
  obtain ⟨z, hz⟩ : ∃ z, z = T3.add ⟨xa, xb, xc⟩ ⟨ya, yb, yc⟩ := ⟨_, rfl⟩
  rw [← hz] at hs ⊢
  clear hz
  obtain ⟨za, zb, zc⟩ := z
  clear hx hy h
  simp only [T3.v] at hs
  go_enter Try.func54, Try.ntmps54
  go_wp2_with fail
  refine (hs _).mono ?_
  rintro e w2 ⟨rfl, b2⟩
  have hz : w.heap.size + 3 ≤ w2.heap.size := by have := b2.size; simp at this; omega
  have hbk : w2.heap[w.heap.size + 2]? = some (.cells #[.int .u64 0, .int .u64 0, .int .u64 0] 58 (0, 0)) := (b2.block _ (by simp)).trans (alloc_at (by simp))
  have r0 := blk_cell hbk 0
  have r1 := blk_cell hbk 1
  have r2 := blk_cell hbk 2
  have s0 := blk_frozen hbk 0
  have s1 := blk_frozen hbk 1
  have s2 := blk_frozen hbk 2
  simp at r0 r1 r2
  have hb : Below w.heap.size w w2 := ((((Below.refl _ _).alloc (Nat.le_refl _) _).alloc (by simp) _).alloc (by simp; omega) _).trans (b2.mono (by simp; omega))
  go_wp2_with fail
  exact bodyPost_ret (v := .tuple #[.agg #[.int .u64 za, .int .u64 zb, .int .u64 zc], .bool true]) (by simp [results, Try.results54, go_sem, *]) rfl ⟨rfl, ((hb.setCell (by simp; omega) _).setCell (by simp; omega) _).setCell (by simp; omega) _⟩
set_option maxHeartbeats 1000000 in
theorem on_no (h : ¬ x.fits y) (w : World) : Calls Try.prog 54 #[x.v, y.v] w fun e w' => e = .returned (.tuple #[zero3, .bool false]) ∧ Below w.heap.size w w' := by
  have hs := fun w => sum_no hx hy h w
  obtain ⟨xa, xb, xc⟩ := x
  obtain ⟨ya, yb, yc⟩ := y
  skip
  clear hx hy h
  simp only [T3.v] at hs
  go_enter Try.func54, Try.ntmps54
  go_wp2_with fail
  refine (hs _).mono ?_
  rintro e w2 ⟨rfl, b2⟩
  have hz : w.heap.size + 3 ≤ w2.heap.size := by have := b2.size; simp at this; omega
  have hbk : w2.heap[w.heap.size + 2]? = some (.cells #[.int .u64 0, .int .u64 0, .int .u64 0] 58 (0, 0)) := (b2.block _ (by simp)).trans (alloc_at (by simp))
  have r0 := blk_cell hbk 0
  have r1 := blk_cell hbk 1
  have r2 := blk_cell hbk 2
  have s0 := blk_frozen hbk 0
  have s1 := blk_frozen hbk 1
  have s2 := blk_frozen hbk 2
  simp at r0 r1 r2
  have hb : Below w.heap.size w w2 := ((((Below.refl _ _).alloc (Nat.le_refl _) _).alloc (by simp) _).alloc (by simp; omega) _).trans (b2.mono (by simp; omega))
  go_wp2_with fail
  exact bodyPost_ret (v := .tuple #[zero3, .bool false]) (by simp [results, Try.results54, go_sem, *]) rfl ⟨rfl, ((hb.setCell (by simp; omega) _).setCell (by simp; omega) _).setCell (by simp; omega) _⟩
end
end Go.Proofs.Ytfbejjobejdenaa.PCodeSays
