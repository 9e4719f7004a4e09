/- The orders: what each function that a heap asks answers. -/
import Derived.Test.YtcppiidfaaafeaaHTDef
import Derived.Test.YtcppiidfaaafeaaHSDef
import Derived.Test.YtcppiidfaaafeaaHIDef
import Derived.Test.YtcppiidfaaafeaaPlain3
set_option linter.unusedVariables false
set_option linter.unusedSimpArgs false
namespace Go.Proofs.Ytcppiidfaaafeaa
open Go.RowKit
open Pl

theorem call_enter (f : Nat) (h : ∀ args W, Sem.run Try.prog (callFunc f args) W = .ok (.enter f args) W) : True := trivial
theorem call25 : ∀ args W, Sem.run Try.prog (callFunc 25 args) W = .ok (.enter 25 args) W := by intro args W; go_simp
theorem call20 : ∀ args W, Sem.run Try.prog (callFunc 20 args) W = .ok (.enter 20 args) W := by intro args W; go_simp
theorem call31 : ∀ args W, Sem.run Try.prog (callFunc 31 args) W = .ok (.enter 31 args) W := by intro args W; go_simp
theorem call32 : ∀ args W, Sem.run Try.prog (callFunc 32 args) W = .ok (.enter 32 args) W := by intro args W; go_simp
theorem call12 : ∀ args W, Sem.run Try.prog (callFunc 12 args) W = .ok (.enter 12 args) W := by intro args W; go_simp
theorem call13 : ∀ args W, Sem.run Try.prog (callFunc 13 args) W = .ok (.enter 13 args) W := by intro args W; go_simp

set_option maxHeartbeats 400000 in
theorem less_first : HI.First 25 (byKey id) := ⟨call25, fun x y W => by
  go_enter Try.func25, Try.ntmps25
  go_wp2
  go_ret
  exact ⟨rfl, Below.refl _ _⟩⟩
def sizeKey (s : ByteArray) : Int := s.size
set_option maxHeartbeats 400000 in
theorem shorter_first : HS.First 12 (byKey sizeKey) := ⟨call12, fun x y W => by
  go_enter Try.func12, Try.ntmps12
  go_wp2
  go_ret
  exact ⟨by simp [byKey, sizeKey], Below.refl _ _⟩⟩
set_option maxHeartbeats 400000 in
theorem always_first : HS.First 13 (fun _ _ => true) := ⟨call13, fun x y W => by
  go_enter Try.func13, Try.ntmps13
  go_wp2
  go_ret
  exact ⟨rfl, Below.refl _ _⟩⟩

def keyOf (o : Int) (x : HT.K) : Int := if o = 0 then x.key else if o = 1 then -x.key else bits .and .i64 x.key 3
set_option maxHeartbeats 800000 in
theorem first_c (o : Int) (x y : HT.K) (w : World) : Calls Try.prog 41 #[.int .i64 o, HT.vt x, HT.vt y] w fun e w' => e = .returned (.bool (byKey (keyOf o) x y)) ∧ Below w.heap.size w w' := by
  obtain ⟨xk, xn⟩ := x
  obtain ⟨yk, yn⟩ := y
  by_cases h0 : o = 0
  · subst h0
    go_enter Try.func41, Try.ntmps41
    go_wp2
    go_ret
    exact ⟨rfl, ((Below.refl _ _).alloc (Nat.le_refl _) _).alloc (by simp) _⟩
  · by_cases h1 : o = 1
    · subst h1
      go_enter Try.func41, Try.ntmps41
      go_wp2
      go_ret
      refine ⟨?_, ((Below.refl _ _).alloc (Nat.le_refl _) _).alloc (by simp) _⟩
      simp [byKey, keyOf]
    · go_enter Try.func41, Try.ntmps41
      go_wp2
      go_ret
      refine ⟨?_, ((Below.refl _ _).alloc (Nat.le_refl _) _).alloc (by simp) _⟩
      simp [byKey, keyOf, h0, h1]
theorem bel2 {w w1 : World} {o o' : Obj} (h : Below ((w.alloc o).alloc o').heap.size ((w.alloc o).alloc o') w1) : Below w.heap.size w w1 :=
  (((Below.refl _ _).alloc (Nat.le_refl _) _).alloc (by simp) _).trans (h.mono (by simp; omega))
set_option maxHeartbeats 400000 in
theorem rising_first : HT.First 20 (byKey (keyOf 0)) := ⟨call20, fun x y W => by
  obtain ⟨xk, xn⟩ := x
  obtain ⟨yk, yn⟩ := y
  go_enter Try.func20, Try.ntmps20
  go_wp2_with fail
  refine (first_c 0 ⟨xk, xn⟩ ⟨yk, yn⟩ _).mono ?_
  rintro e w1 ⟨rfl, hb1⟩
  go_wp2
  go_ret
  exact ⟨rfl, bel2 hb1⟩⟩
set_option maxHeartbeats 400000 in
theorem falling_first : HT.First 31 (byKey (keyOf 1)) := ⟨call31, fun x y W => by
  obtain ⟨xk, xn⟩ := x
  obtain ⟨yk, yn⟩ := y
  go_enter Try.func31, Try.ntmps31
  go_wp2_with fail
  refine (first_c 1 ⟨xk, xn⟩ ⟨yk, yn⟩ _).mono ?_
  rintro e w1 ⟨rfl, hb1⟩
  go_wp2
  go_ret
  exact ⟨rfl, bel2 hb1⟩⟩
set_option maxHeartbeats 400000 in
theorem some_first : HT.First 32 (byKey (keyOf 2)) := ⟨call32, fun x y W => by
  obtain ⟨xk, xn⟩ := x
  obtain ⟨yk, yn⟩ := y
  go_enter Try.func32, Try.ntmps32
  go_wp2_with fail
  refine (first_c 2 ⟨xk, xn⟩ ⟨yk, yn⟩ _).mono ?_
  rintro e w1 ⟨rfl, hb1⟩
  go_wp2
  go_ret
  exact ⟨rfl, bel2 hb1⟩⟩
end Go.Proofs.Ytcppiidfaaafeaa
