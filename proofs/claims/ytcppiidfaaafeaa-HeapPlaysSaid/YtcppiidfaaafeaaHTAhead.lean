/- ahead: the contract. -/
import Derived.Test.YtcppiidfaaafeaaHTDef
set_option linter.unusedVariables false
set_option linter.unusedSimpArgs false
namespace Go.Proofs.Ytcppiidfaaafeaa
open Go.RowKit
namespace HT
open Pl
set_option maxHeartbeats 1000000 in
theorem ahead_yes {f : Nat} {lt : K → K → Bool} (hF : First f lt) {B : Nat} {w : World} {hb : Nat} {v : Value} {l : List (Th K)} {nx : Int} (H : Heap B w hb f v l nx) (i k : Nat) (hi : i < l.length) (hk : k < l.length) (h : lt l[i].v l[k].v = true) :
    Calls Try.prog 42 #[.pointer (some ⟨hb, 0, none⟩), .int .i64 i, .int .i64 k] w fun e w' => e = .returned (.bool (true)) ∧ Below w.heap.size w w' := by
  obtain ⟨g, c, rfl, hBg, hg, hne, hcap⟩ := H.form (by omega)
  obtain ⟨hi0, hi1, hi2⟩ := H.at_ i hi
  obtain ⟨hk0, hk1, hk2⟩ := H.at_ k hk
  have hbs := blk_lt H.blk
  have h0 := blk_cell H.blk 0
  have h1 := blk_cell H.blk 1
  have hC := hF.call
  have HD := Lib.hid hF.does
  clear H
  generalize l[i] = x at *
  generalize l[k] = y at *
  generalize l.length = n at *
  have hbs1 : hb < w.heap.size + 1 := by omega
  have hg1 : g < w.heap.size + 1 := by omega
  simp at h0 h1
  obtain ⟨⟨xk, xn⟩, xo⟩ := x
  obtain ⟨⟨yk, yn⟩, yo⟩ := y
  simp only at hi0 hi1 hi2 hk0 hk1 hk2
  have hz1 : w.heap.size < w.heap.size + 1 + 1 := by omega
  have hl1 : lt ⟨xk, xn⟩ ⟨yk, yn⟩ = true := h
  clear h
  go_enter Try.func42, Try.ntmps42
  go_wp2
  go_region
  all_goals
    go_wp2
    refine region_still_tail 8 (by kernel_rfl) (by kernel_rfl) ?_
    simp only [List.take_succ_cons, List.take_zero, List.drop_succ_cons, List.drop_zero]
    repeat still_step
    try refine wpStill_nil ?_
    go_wp2_with fail
    refine (HD.out ⟨xk, xn⟩ ⟨yk, yn⟩ _).mono ?_
    rw [hl1]
    rintro e w1 ⟨rfl, hb1⟩
    go_wp2
    go_ret
    exact ⟨rfl, (((((Below.refl _ _).alloc (Nat.le_refl _) _).alloc (by simp) _).drew).drew).trans (hb1.mono (by simp; omega))⟩
set_option maxHeartbeats 1000000 in
theorem ahead_tie {f : Nat} {lt : K → K → Bool} (hF : First f lt) {B : Nat} {w : World} {hb : Nat} {v : Value} {l : List (Th K)} {nx : Int} (H : Heap B w hb f v l nx) (i k : Nat) (hi : i < l.length) (hk : k < l.length) (h : lt l[i].v l[k].v = false ∧ l[i].no < l[k].no) :
    Calls Try.prog 42 #[.pointer (some ⟨hb, 0, none⟩), .int .i64 i, .int .i64 k] w fun e w' => e = .returned (.bool (!lt l[k].v l[i].v)) ∧ Below w.heap.size w w' := by
  obtain ⟨g, c, rfl, hBg, hg, hne, hcap⟩ := H.form (by omega)
  obtain ⟨hi0, hi1, hi2⟩ := H.at_ i hi
  obtain ⟨hk0, hk1, hk2⟩ := H.at_ k hk
  have hbs := blk_lt H.blk
  have h0 := blk_cell H.blk 0
  have h1 := blk_cell H.blk 1
  have hC := hF.call
  have HD := Lib.hid hF.does
  clear H
  generalize l[i] = x at *
  generalize l[k] = y at *
  generalize l.length = n at *
  have hbs1 : hb < w.heap.size + 1 := by omega
  have hg1 : g < w.heap.size + 1 := by omega
  simp at h0 h1
  obtain ⟨⟨xk, xn⟩, xo⟩ := x
  obtain ⟨⟨yk, yn⟩, yo⟩ := y
  simp only at hi0 hi1 hi2 hk0 hk1 hk2
  have hz1 : w.heap.size < w.heap.size + 1 + 1 := by omega
  have hl1 : lt ⟨xk, xn⟩ ⟨yk, yn⟩ = false := h.1
  have hno : xo < yo := h.2
  clear h
  have hd : decide (xo < yo) = true := decide_eq_true hno
  go_enter Try.func42, Try.ntmps42
  go_wp2
  go_region
  all_goals
    go_wp2
    refine region_still_tail 8 (by kernel_rfl) (by kernel_rfl) ?_
    simp only [List.take_succ_cons, List.take_zero, List.drop_succ_cons, List.drop_zero]
    repeat still_step
    try refine wpStill_nil ?_
    go_wp2_with fail
    refine (HD.out ⟨xk, xn⟩ ⟨yk, yn⟩ _).mono ?_
    rw [hl1]
    rintro e w1 ⟨rfl, hb1⟩
    have c10 := hb1.cell (p := ⟨w.heap.size, 0, none⟩) (by simpa using hz1)
    have c11 := hb1.cell (p := ⟨w.heap.size, 1, none⟩) (by simpa using hz1)
    have c12 := hb1.cell (p := ⟨w.heap.size, 2, none⟩) (by simpa using hz1)
    have c20 := hb1.cell (p := ⟨w.heap.size+1, 0, none⟩) (by simp)
    have c21 := hb1.cell (p := ⟨w.heap.size+1, 1, none⟩) (by simp)
    have c22 := hb1.cell (p := ⟨w.heap.size+1, 2, none⟩) (by simp)
    have hbw : Below w.heap.size w w1 := (((((Below.refl _ _).alloc (Nat.le_refl _) _).alloc (by simp) _).drew).drew).trans (hb1.mono (by simp; omega))
    have c0 := (hbw.cell (p := ⟨hb, 0, none⟩) hbs).trans h0
    simp at c10 c11 c12 c20 c21 c22
    clear hb1
    go_wp2
    refine region_still_tail 14 (by kernel_rfl) (by kernel_rfl) ?_
    simp only [List.take_succ_cons, List.take_zero, List.drop_succ_cons, List.drop_zero]
    repeat still_step
    try refine wpStill_nil ?_
    go_wp2_with fail
    refine (HD.out ⟨yk, yn⟩ ⟨xk, xn⟩ _).mono ?_
    rintro e w2 ⟨rfl, hb2⟩
    go_wp2
    go_ret
    exact ⟨rfl, hbw.drew.trans (hb2.mono (by simpa using hbw.size))⟩
set_option maxHeartbeats 1000000 in
theorem ahead_no {f : Nat} {lt : K → K → Bool} (hF : First f lt) {B : Nat} {w : World} {hb : Nat} {v : Value} {l : List (Th K)} {nx : Int} (H : Heap B w hb f v l nx) (i k : Nat) (hi : i < l.length) (hk : k < l.length) (h : lt l[i].v l[k].v = false ∧ ¬ l[i].no < l[k].no) :
    Calls Try.prog 42 #[.pointer (some ⟨hb, 0, none⟩), .int .i64 i, .int .i64 k] w fun e w' => e = .returned (.bool (false)) ∧ Below w.heap.size w w' := by
  obtain ⟨g, c, rfl, hBg, hg, hne, hcap⟩ := H.form (by omega)
  obtain ⟨hi0, hi1, hi2⟩ := H.at_ i hi
  obtain ⟨hk0, hk1, hk2⟩ := H.at_ k hk
  have hbs := blk_lt H.blk
  have h0 := blk_cell H.blk 0
  have h1 := blk_cell H.blk 1
  have hC := hF.call
  have HD := Lib.hid hF.does
  clear H
  generalize l[i] = x at *
  generalize l[k] = y at *
  generalize l.length = n at *
  have hbs1 : hb < w.heap.size + 1 := by omega
  have hg1 : g < w.heap.size + 1 := by omega
  simp at h0 h1
  obtain ⟨⟨xk, xn⟩, xo⟩ := x
  obtain ⟨⟨yk, yn⟩, yo⟩ := y
  simp only at hi0 hi1 hi2 hk0 hk1 hk2
  have hz1 : w.heap.size < w.heap.size + 1 + 1 := by omega
  have hl1 : lt ⟨xk, xn⟩ ⟨yk, yn⟩ = false := h.1
  have hd : decide (xo < yo) = false := decide_eq_false h.2
  clear h
  go_enter Try.func42, Try.ntmps42
  go_wp2
  go_region
  all_goals
    go_wp2
    refine region_still_tail 8 (by kernel_rfl) (by kernel_rfl) ?_
    simp only [List.take_succ_cons, List.take_zero, List.drop_succ_cons, List.drop_zero]
    repeat still_step
    try refine wpStill_nil ?_
    go_wp2_with fail
    refine (HD.out ⟨xk, xn⟩ ⟨yk, yn⟩ _).mono ?_
    rw [hl1]
    rintro e w1 ⟨rfl, hb1⟩
    have c3 := hb1.cell (p := ⟨w.heap.size, 2, none⟩) (by simpa using hz1)
    have c6 := hb1.cell (p := ⟨w.heap.size+1, 2, none⟩) (by simp)
    have hbw : Below w.heap.size w w1 := (((((Below.refl _ _).alloc (Nat.le_refl _) _).alloc (by simp) _).drew).drew).trans (hb1.mono (by simp; omega))
    simp at c3 c6
    clear hb1
    go_wp2
    go_quiet (fail)
    go_wp2
    go_ret
    exact ⟨rfl, below_drewN hbw _⟩
theorem ahead_c {f : Nat} {lt : K → K → Bool} (hF : First f lt) {B : Nat} {w : World} {hb : Nat} {v : Value} {l : List (Th K)} {nx : Int} (H : Heap B w hb f v l nx) (i k : Nat) (hi : i < l.length) (hk : k < l.length) :
    Calls Try.prog 42 #[.pointer (some ⟨hb, 0, none⟩), .int .i64 i, .int .i64 k] w fun e w' => e = .returned (.bool (aheadT lt l[i] l[k])) ∧ Below w.heap.size w w' := by
  unfold aheadT
  cases h : lt l[i].v l[k].v with
  | true => exact ahead_yes hF H i k hi hk h
  | false =>
    by_cases hn : l[i].no < l[k].no
    · rw [decide_eq_true hn]; exact ahead_tie hF H i k hi hk ⟨h, hn⟩
    · rw [decide_eq_false hn]; exact ahead_no hF H i k hi hk ⟨h, hn⟩

end HT
end Go.Proofs.Ytcppiidfaaafeaa
