/- CodeParts: the walk. -/
import Derived.Test.YtfbejjobejdenaaCWalk
import Derived.Deep.RegionHeld3
import Derived.Deep.DeepCutAuto
import Derived.Laws.ByValue
set_option linter.unusedVariables false
set_option linter.unusedSimpArgs false
namespace Go.Proofs.Ytfbejjobejdenaa.PCodeSays
open Go.RowKit Go.Proofs.YtfbejjobejdenaaW.PrintWords Go.Proofs.YtfbejjobejdenaaW.PrintLast Go.Proofs.YtfbejjobejdenaaW.PrintMore
attribute [local go_sem high] eqA25 eqA29
theorem L9 (n a b : Int) : mapP ([⟨2, n⟩] ++ [⟨5, n⟩]) (a, b) = mapP [⟨9, n⟩] (a, b) := by simp [mapP, chk, chkL, may, acts, act]
theorem L10 (n a b : Int) : mapP ([⟨1, n⟩] ++ [⟨4, n⟩]) (a, b) = mapP [⟨10, n⟩] (a, b) := by simp [mapP, chk, chkL, may, acts, act]
theorem L27 (n a b : Int) : passP ([⟨23, n⟩] ++ [⟨26, n⟩]) (a, b) = passP [⟨27, n⟩] (a, b) := by simp [passP, chk, chkL, may, hold]
theorem L21 (n a b : Int) : passP [⟨22, n⟩] (a, b) = !passP [⟨21, n⟩] (a, b) := by simp [passP, chk, chkL, may, hold, bne]
theorem L24 (n a b : Int) : passP [⟨25, n⟩] (a, b) = !passP [⟨24, n⟩] (a, b) := by simp [passP, chk, chkL, may, hold, bne]
theorem L7 (a b : Int) : mapP [⟨7, 0⟩, ⟨7, 0⟩] (a, b) = (a, b) := by simp [mapP, chk, chkL, may, acts, act]
theorem L8 (a b : Int) : mapP [⟨8, 0⟩] (a, b) = (a, IntKind.u64.wrap (b + a)) := by simp [mapP, chk, chkL, may, acts, act]
theorem L28 (a b : Int) : passP [⟨28, 0⟩] (a, b) = (a == b) := by simp [passP, chk, chkL, may, hold]
theorem L3 (n a b : Int) (hn : n ≠ 0) : mapP [⟨3, n⟩] (a, b) = (Int.tmod a n, b) := by simp [mapP, chk, chkL, may, acts, act, hn]
section
variable {w : World} {A : Option Addr} {c : Nat} {l : List S29}
theorem map_to {a b x y : Int} (hr : Row w A l) (hc : l.length ≤ c) (h : mapP l (a, b) = (x, y)) : Calls Try.prog 10 #[.slice A l.length c, .agg #[.int .u64 a, .int .u64 b]] w fun e w' => e = .returned (.agg #[.int .u64 x, .int .u64 y]) ∧ Below w.heap.size w w' := by
  have := map_c (w := w) a b hr.C hc
  rw [h] at this
  exact this
theorem pass_to {a b : Int} {x : Bool} (hr : Row w A l) (hc : l.length ≤ c) (h : passP l (a, b) = x) : Calls Try.prog 12 #[.slice A l.length c, .agg #[.int .u64 a, .int .u64 b]] w fun e w' => e = .returned (.bool x) ∧ Below w.heap.size w w' := by
  have := pass_c (w := w) a b hr.C hc
  rw [h] at this
  exact this
end
/-- What is known of the boxes. -/
structure Bx (w W : World) (nb : Nat) (n a b : Int) : Prop where
  be : Below w.heap.size w W
  nc : W.cell? ⟨nb, 0, none⟩ = some (.int .u64 n)
  rc : W.cell? ⟨nb + 1, 0, none⟩ = some (.int .u64 a)
  vc : W.cell? ⟨nb + 1, 1, none⟩ = some (.int .u64 b)
  lt : nb + 1 < W.heap.size
theorem Bx.then {w W W' : World} {nb : Nat} {n a b : Int} (h : Bx w W nb n a b) (k : Below W.heap.size W W') : Bx w W' nb n a b :=
  ⟨h.be.trans (k.mono h.be.size), (k.cell (p := ⟨nb, 0, none⟩) (by have := h.lt; simp; omega)).trans h.nc, (k.cell (p := ⟨nb + 1, 0, none⟩) h.lt).trans h.rc, (k.cell (p := ⟨nb + 1, 1, none⟩) h.lt).trans h.vc, Nat.lt_of_lt_of_le h.lt k.size⟩
set_option maxRecDepth 100000 in
set_option maxHeartbeats 4000000 in
theorem parts_c (n a b : Int) (w : World) (hn : 0 ≤ n) (ha : 0 ≤ a) : Calls Try.prog 5 #[.int .u64 n, .agg #[.int .u64 a, .int .u64 b]] w fun e w' => e = .returned (.bool true) ∧ Below w.heap.size w w' := by
  obtain ⟨nb, hnb⟩ : ∃ nb, nb = w.heap.size := ⟨_, rfl⟩
  obtain ⟨x9, h9⟩ : ∃ x, x = mapP [⟨9, n⟩] (a, b) := ⟨_, rfl⟩
  obtain ⟨x9, y9⟩ := x9
  have h9' := Lib.hid ((L9 n a b).trans h9.symm)
  have H9 := Lib.hid h9.symm
  obtain ⟨x10, h10⟩ : ∃ x, x = mapP [⟨10, n⟩] (a, b) := ⟨_, rfl⟩
  obtain ⟨x10, y10⟩ := x10
  have h10' := Lib.hid ((L10 n a b).trans h10.symm)
  have H10 := Lib.hid h10.symm
  obtain ⟨z27, h27⟩ : ∃ x, x = passP [⟨27, n⟩] (a, b) := ⟨_, rfl⟩
  have h27' := Lib.hid ((L27 n a b).trans h27.symm)
  have H27 := Lib.hid h27.symm
  obtain ⟨z21, h21⟩ : ∃ x, x = passP [⟨21, n⟩] (a, b) := ⟨_, rfl⟩
  have h22 := Lib.hid (L21 n a b)
  rw [← h21] at h22
  have H21 := Lib.hid h21.symm
  obtain ⟨z24, h24⟩ : ∃ x, x = passP [⟨24, n⟩] (a, b) := ⟨_, rfl⟩
  have h25 := Lib.hid (L24 n a b)
  rw [← h24] at h25
  have H24 := Lib.hid h24.symm
  clear h9 h10 h27 h21 h24
  go_enter Try.func5, Try.ntmps5
  go_upto_region 2 with fail
  have hB : Bx w ((w.alloc (.cells #[.int .u64 n] 23)).alloc (.cells #[.int .u64 a, .int .u64 b] 25)) nb n a b := by
    have hx0 : ((w.alloc (.cells #[.int .u64 n] 23)).alloc (.cells #[.int .u64 a, .int .u64 b] 25)).heap[nb]? = some (.cells #[.int .u64 n] 23 (0, 0)) := by rw [hnb]; exact blk_alloc (heap_alloc_new _ _) _
    have hx1 : ((w.alloc (.cells #[.int .u64 n] 23)).alloc (.cells #[.int .u64 a, .int .u64 b] 25)).heap[nb + 1]? = some (.cells #[.int .u64 a, .int .u64 b] 25 (0, 0)) := by
      have := heap_alloc_new (w.alloc (.cells #[.int .u64 n] 23)) (.cells #[.int .u64 a, .int .u64 b] 25)
      rw [hnb]; simpa using this
    exact ⟨((Below.refl _ _).alloc (Nat.le_refl _) _).alloc (by simp) _, blk_cell hx0 0, blk_cell hx1 0, blk_cell hx1 1, blk_lt hx1⟩
  generalize ((w.alloc (.cells #[.int .u64 n] 23)).alloc (.cells #[.int .u64 a, .int .u64 b] 25)) = W0 at *
  rw [← hnb]
  have HNB := Lib.hid hnb
  clear hnb

  go_cut [6] (fun s wx => s = .bool true ∧ Bx w wx nb n a b)
  case first =>
    have k0 : Bx w W0.drew nb n a b := hB.then ((Below.refl _ _).drew)
    obtain ⟨be, nc, rc, vc, lt⟩ := hB
    have HB := Lib.hid be
    clear be
    go_region_held3 (fun w' => w'.cell? ⟨nb, 0, none⟩ = some (.int .u64 n) ∧ w'.cell? ⟨nb + 1, 0, none⟩ = some (.int .u64 a) ∧ w'.cell? ⟨nb + 1, 1, none⟩ = some (.int .u64 b))
      (first | exact ⟨nc, rc, vc⟩ | exact ⟨k1.nc, k1.rc, k1.vc⟩ | exact ⟨k2.nc, k2.rc, k2.vc⟩ | exact ⟨k3.nc, k3.rc, k3.vc⟩ | exact ⟨k4.nc, k4.rc, k4.vc⟩ | exact ⟨k5.nc, k5.rc, k5.vc⟩ | exact ⟨k6.nc, k6.rc, k6.vc⟩ | go_keep)
      (first
        | (go_at_call 10; refine (map_to r5 (q5) h9'.out).mono ?_; rintro e w6 ⟨rfl, b6⟩; have k6 := k5.then b6)
        | (go_at_call 16; refine (joined_c (r3.below b4) r4 (by simp)).mono ?_; rintro e w5 ⟨A5, c5, rfl, o5, b5⟩; have k5 := k4.then b5; obtain ⟨r5, q5⟩ := Row.of_own o5)
        | (go_at_call 18; refine (op_c k3.nc 5).mono ?_; rintro e w4 ⟨A4, rfl, r4, b4⟩; have k4 := k3.then b4)
        | (go_at_call 18; refine (op_c k2.nc 2).mono ?_; rintro e w3 ⟨A3, rfl, r3, b3⟩; have k3 := k2.then b3)
        | (go_at_call 10; refine (map_to r1 (Nat.le_refl _) H9.out).mono ?_; rintro e w2 ⟨rfl, b2⟩; have k2 := k1.then b2)
        | (go_at_call 18; refine (op_c k0.nc 9).mono ?_; rintro e w1 ⟨A1, rfl, r1, b1⟩; have k1 := k0.then b1))
    all_goals
      go_wp2_with fail
      go_meet
      exact ⟨by simp, k6⟩
  case rest =>
  obtain ⟨rfl, hB1⟩ := hcut
  clear hB
  obtain ⟨W2, hW⟩ : ∃ W, W = wc := ⟨_, rfl⟩
  subst hW
  have hB := hB1
  clear hB1
  go_upto_region 3 with fail
  go_cut [7] (fun s wx => s = .bool true ∧ Bx w wx nb n a b)
  case first =>
    have k0 : Bx w W2.drew nb n a b := hB.then ((Below.refl _ _).drew)
    obtain ⟨be, nc, rc, vc, lt⟩ := hB
    have HB := Lib.hid be
    clear be
    go_region_held3 (fun w' => w'.cell? ⟨nb, 0, none⟩ = some (.int .u64 n) ∧ w'.cell? ⟨nb + 1, 0, none⟩ = some (.int .u64 a) ∧ w'.cell? ⟨nb + 1, 1, none⟩ = some (.int .u64 b))
      (first | exact ⟨nc, rc, vc⟩ | exact ⟨k1.nc, k1.rc, k1.vc⟩ | exact ⟨k2.nc, k2.rc, k2.vc⟩ | exact ⟨k3.nc, k3.rc, k3.vc⟩ | exact ⟨k4.nc, k4.rc, k4.vc⟩ | exact ⟨k5.nc, k5.rc, k5.vc⟩ | exact ⟨k6.nc, k6.rc, k6.vc⟩ | go_keep)
      (first
        | (go_at_call 10; refine (map_to r5 (q5) h10'.out).mono ?_; rintro e w6 ⟨rfl, b6⟩; have k6 := k5.then b6)
        | (go_at_call 16; refine (joined_c (r3.below b4) r4 (by simp)).mono ?_; rintro e w5 ⟨A5, c5, rfl, o5, b5⟩; have k5 := k4.then b5; obtain ⟨r5, q5⟩ := Row.of_own o5)
        | (go_at_call 18; refine (op_c k3.nc 4).mono ?_; rintro e w4 ⟨A4, rfl, r4, b4⟩; have k4 := k3.then b4)
        | (go_at_call 18; refine (op_c k2.nc 1).mono ?_; rintro e w3 ⟨A3, rfl, r3, b3⟩; have k3 := k2.then b3)
        | (go_at_call 10; refine (map_to r1 (Nat.le_refl _) H10.out).mono ?_; rintro e w2 ⟨rfl, b2⟩; have k2 := k1.then b2)
        | (go_at_call 18; refine (op_c k0.nc 10).mono ?_; rintro e w1 ⟨A1, rfl, r1, b1⟩; have k1 := k0.then b1))
    all_goals
      go_wp2_with fail
      go_meet
      exact ⟨by simp, k6⟩
  case rest =>
  obtain ⟨rfl, hB1⟩ := hcut
  clear hB
  obtain ⟨W3, hW⟩ : ∃ W, W = wc := ⟨_, rfl⟩
  subst hW
  have hB := hB1
  clear hB1
  go_upto_region 4 with fail
  go_cut [8] (fun s wx => s = .bool true ∧ Bx w wx nb n a b)
  case first =>
    have k0 : Bx w W3.drew nb n a b := hB.then ((Below.refl _ _).drew)
    obtain ⟨be, nc, rc, vc, lt⟩ := hB
    have HB := Lib.hid be
    clear be
    go_region_held3 (fun w' => w'.cell? ⟨nb, 0, none⟩ = some (.int .u64 n) ∧ w'.cell? ⟨nb + 1, 0, none⟩ = some (.int .u64 a) ∧ w'.cell? ⟨nb + 1, 1, none⟩ = some (.int .u64 b))
      (first | exact ⟨nc, rc, vc⟩ | exact ⟨k1.nc, k1.rc, k1.vc⟩ | exact ⟨k2.nc, k2.rc, k2.vc⟩ | exact ⟨k3.nc, k3.rc, k3.vc⟩ | exact ⟨k4.nc, k4.rc, k4.vc⟩ | exact ⟨k5.nc, k5.rc, k5.vc⟩ | exact ⟨k6.nc, k6.rc, k6.vc⟩ | go_keep)
      (first
        | (go_at_call 12; refine (pass_to r5 (q5) h27'.out).mono ?_; rintro e w6 ⟨rfl, b6⟩; have k6 := k5.then b6)
        | (go_at_call 16; refine (joined_c (r3.below b4) r4 (by simp)).mono ?_; rintro e w5 ⟨A5, c5, rfl, o5, b5⟩; have k5 := k4.then b5; obtain ⟨r5, q5⟩ := Row.of_own o5)
        | (go_at_call 18; refine (op_c k3.nc 26).mono ?_; rintro e w4 ⟨A4, rfl, r4, b4⟩; have k4 := k3.then b4)
        | (go_at_call 18; refine (op_c k2.nc 23).mono ?_; rintro e w3 ⟨A3, rfl, r3, b3⟩; have k3 := k2.then b3)
        | (go_at_call 12; refine (pass_to r1 (Nat.le_refl _) H27.out).mono ?_; rintro e w2 ⟨rfl, b2⟩; have k2 := k1.then b2)
        | (go_at_call 18; refine (op_c k0.nc 27).mono ?_; rintro e w1 ⟨A1, rfl, r1, b1⟩; have k1 := k0.then b1))
    all_goals
      go_wp2_with fail
      go_meet
      exact ⟨by simp, k6⟩
  case rest =>
  obtain ⟨rfl, hB1⟩ := hcut
  clear hB
  obtain ⟨W4, hW⟩ : ∃ W, W = wc := ⟨_, rfl⟩
  subst hW
  have hB := hB1
  clear hB1
  go_upto_region 5 with fail
  go_cut [9] (fun s wx => s = .bool true ∧ Bx w wx nb n a b)
  case first =>
    have k0 : Bx w W4.drew nb n a b := hB.then ((Below.refl _ _).drew)
    obtain ⟨be, nc, rc, vc, lt⟩ := hB
    have HB := Lib.hid be
    clear be
    go_region_held3 (fun w' => w'.cell? ⟨nb, 0, none⟩ = some (.int .u64 n) ∧ w'.cell? ⟨nb + 1, 0, none⟩ = some (.int .u64 a) ∧ w'.cell? ⟨nb + 1, 1, none⟩ = some (.int .u64 b))
      (first | exact ⟨nc, rc, vc⟩ | exact ⟨k1.nc, k1.rc, k1.vc⟩ | exact ⟨k2.nc, k2.rc, k2.vc⟩ | exact ⟨k3.nc, k3.rc, k3.vc⟩ | exact ⟨k4.nc, k4.rc, k4.vc⟩ | go_keep)
      (first
        | (go_at_call 12; refine (pass_to r3 (Nat.le_refl _) h22.out).mono ?_; rintro e w4 ⟨rfl, b4⟩; have k4 := k3.then b4)
        | (go_at_call 18; refine (op_c k2.nc 22).mono ?_; rintro e w3 ⟨A3, rfl, r3, b3⟩; have k3 := k2.then b3)
        | (go_at_call 12; refine (pass_to r1 (Nat.le_refl _) H21.out).mono ?_; rintro e w2 ⟨rfl, b2⟩; have k2 := k1.then b2)
        | (go_at_call 18; refine (op_c k0.nc 21).mono ?_; rintro e w1 ⟨A1, rfl, r1, b1⟩; have k1 := k0.then b1))
    all_goals
      go_wp2_with fail
      go_meet
      exact ⟨by simp, k4⟩
  case rest =>
  obtain ⟨rfl, hB1⟩ := hcut
  clear hB
  obtain ⟨W5, hW⟩ : ∃ W, W = wc := ⟨_, rfl⟩
  subst hW
  have hB := hB1
  clear hB1
  go_upto_region 6 with fail
  go_cut [10] (fun s wx => s = .bool true ∧ Bx w wx nb n a b)
  case first =>
    have k0 : Bx w W5.drew nb n a b := hB.then ((Below.refl _ _).drew)
    obtain ⟨be, nc, rc, vc, lt⟩ := hB
    have HB := Lib.hid be
    clear be
    go_region_held3 (fun w' => w'.cell? ⟨nb, 0, none⟩ = some (.int .u64 n) ∧ w'.cell? ⟨nb + 1, 0, none⟩ = some (.int .u64 a) ∧ w'.cell? ⟨nb + 1, 1, none⟩ = some (.int .u64 b))
      (first | exact ⟨nc, rc, vc⟩ | exact ⟨k1.nc, k1.rc, k1.vc⟩ | exact ⟨k2.nc, k2.rc, k2.vc⟩ | exact ⟨k3.nc, k3.rc, k3.vc⟩ | exact ⟨k4.nc, k4.rc, k4.vc⟩ | go_keep)
      (first
        | (go_at_call 12; refine (pass_to r3 (Nat.le_refl _) h25.out).mono ?_; rintro e w4 ⟨rfl, b4⟩; have k4 := k3.then b4)
        | (go_at_call 18; refine (op_c k2.nc 25).mono ?_; rintro e w3 ⟨A3, rfl, r3, b3⟩; have k3 := k2.then b3)
        | (go_at_call 12; refine (pass_to r1 (Nat.le_refl _) H24.out).mono ?_; rintro e w2 ⟨rfl, b2⟩; have k2 := k1.then b2)
        | (go_at_call 18; refine (op_c k0.nc 24).mono ?_; rintro e w1 ⟨A1, rfl, r1, b1⟩; have k1 := k0.then b1))
    all_goals
      go_wp2_with fail
      go_meet
      exact ⟨by simp, k4⟩
  case rest =>
  obtain ⟨rfl, hB1⟩ := hcut
  clear hB
  obtain ⟨W6, hW⟩ : ∃ W, W = wc := ⟨_, rfl⟩
  subst hW
  have hB := hB1
  clear hB1

  go_upto_region 8 with fail
  have r7 : Row (W6.alloc (.cells #[.int .i64 7, .int .u64 0, .int .i64 7, .int .u64 0] 29)) (some ⟨W6.heap.size, 0, none⟩) [⟨7, 0⟩, ⟨7, 0⟩] := by
    have h := World.ownsRow_lit (base := 0) (e := 29) (size := 2) W6 #[.int .i64 7, .int .u64 0, .int .i64 7, .int .u64 0] 2 (by omega) (by decide) (by rfl)
    exact (Row.of_own (l := [⟨7, 0⟩, ⟨7, 0⟩]) (by simpa [flatS, cS] using h)).1
  have hB7 := hB.then ((Below.refl _ _).alloc (Nat.le_refl _) (.cells #[.int .i64 7, .int .u64 0, .int .i64 7, .int .u64 0] 29))
  obtain ⟨g7, hg7⟩ : ∃ g, g = W6.heap.size := ⟨_, rfl⟩
  rw [← hg7] at r7 ⊢
  clear hg7 hB
  generalize (W6.alloc (.cells #[.int .i64 7, .int .u64 0, .int .i64 7, .int .u64 0] 29)) = W7 at *
  have r8 : Row (W7.alloc (.cells #[.int .i64 8, .int .u64 0] 29)) (some ⟨W7.heap.size, 0, none⟩) [⟨8, 0⟩] := by
    have h := World.ownsRow_lit (base := 0) (e := 29) (size := 2) W7 #[.int .i64 8, .int .u64 0] 1 (by omega) (by decide) (by rfl)
    exact (Row.of_own (l := [⟨8, 0⟩]) (by simpa [flatS, cS] using h)).1
  have a8 : Below W7.heap.size W7 (W7.alloc (.cells #[.int .i64 8, .int .u64 0] 29)) := (Below.refl _ _).alloc (Nat.le_refl _) _
  have hB8 := hB7.then a8
  have r7' := r7.below a8
  obtain ⟨be8, nc8, rc8, vc8, lt8⟩ := hB8
  obtain ⟨be7, nc7, rc7, vc7, lt7⟩ := hB7
  go_upto_region 9 with (go_at_call 10; refine (map_to (l := [⟨8, 0⟩]) r8 (Nat.le_refl _) (L8 a b)).mono ?_; rintro e w9 ⟨rfl, b9⟩)
  have hB9 : Bx w w9 nb n a b := Bx.then ⟨be8, nc8, rc8, vc8, lt8⟩ b9
  have a10 : Below w9.heap.size w9 (w9.alloc (.cells #[.int .u64 a, .int .u64 (IntKind.u64.wrap (b + a))] 25)) := (Below.refl _ _).alloc (Nat.le_refl _) _
  have hB := hB9.then a10
  have r10 := (r7'.below b9).below a10
  have x0 : (w9.alloc (.cells #[.int .u64 a, .int .u64 (IntKind.u64.wrap (b + a))] 25)).heap[w9.heap.size]? = some (.cells #[.int .u64 a, .int .u64 (IntKind.u64.wrap (b + a))] 25 (0, 0)) := heap_alloc_new _ _
  obtain ⟨g9, hg9⟩ : ∃ g, g = w9.heap.size := ⟨_, rfl⟩
  rw [← hg9] at x0 ⊢
  clear hg9 be8 nc8 rc8 vc8 lt8 be7 nc7 rc7 vc7 lt7 r7 r7' r8 a8 a10 hB9 b9
  generalize (w9.alloc (.cells #[.int .u64 a, .int .u64 (IntKind.u64.wrap (b + a))] 25)) = W9 at *
  have a11 : Below W9.heap.size W9 (W9.drew.alloc (.cells #[.int .i64 28, .int .u64 0] 29)) := ((Below.refl _ _).drew).alloc (Nat.le_refl _) _
  have hB11 := hB.then a11
  have r28 : Row (W9.drew.alloc (.cells #[.int .i64 28, .int .u64 0] 29)) (some ⟨W9.heap.size, 0, none⟩) [⟨28, 0⟩] := by
    have h := World.ownsRow_lit (base := 0) (e := 29) (size := 2) W9.drew #[.int .i64 28, .int .u64 0] 1 (by omega) (by decide) (by rfl)
    exact (Row.of_own (l := [⟨28, 0⟩]) (by simpa [flatS, cS] using h)).1
  go_cut [13] (fun s wx => s = .bool true ∧ Bx w wx nb n a b ∧ Below W9.heap.size W9 wx)
  case first =>
    have hcB := hB
    obtain ⟨be, nc, rc, vc, lt⟩ := hB
    have HB := Lib.hid be
    clear be
    go_region_held3 (fun w' => w'.cell? ⟨nb, 0, none⟩ = some (.int .u64 n) ∧ w'.cell? ⟨nb + 1, 0, none⟩ = some (.int .u64 a) ∧ w'.cell? ⟨nb + 1, 1, none⟩ = some (.int .u64 b))
      (first | exact ⟨nc, rc, vc⟩ | exact ⟨hB11.nc, hB11.rc, hB11.vc⟩ | exact ⟨k1.nc, k1.rc, k1.vc⟩ | go_keep)
      (first | (go_at_call 12; refine (pass_to (l := [⟨28, 0⟩]) r28 (Nat.le_refl _) (L28 a b)).mono ?_; rintro e w1 ⟨rfl, b1⟩; have k1 := hB11.then b1))
    all_goals
      go_wp2_with fail
      go_meet
      exact ⟨by simp, k1, a11.trans (b1.mono a11.size)⟩
  case rest =>
  obtain ⟨rfl, hB1, b12⟩ := hcut
  clear hB hB11 a11 r28
  obtain ⟨W10, hW⟩ : ∃ W, W = wc := ⟨_, rfl⟩
  subst hW
  have hB := hB1
  have x10 := blk_below x0 b12
  have r11 := r10.below b12
  clear hB1 x0 r10 b12
  go_upto_region 10 with fail
  go_cut [14] (fun s wx => s = .bool true ∧ Bx w wx nb n a b ∧ Below W10.heap.size W10 wx)
  case first =>
    have k0 : Bx w W10.drew nb n a b := hB.then ((Below.refl _ _).drew)
    have e0 : Below W10.heap.size W10 W10.drew := (Below.refl _ _).drew
    have HBk := Lib.hid hB
    have hfield : ∀ (a b : Int) (W : World), Sem.run Try.prog (Instr.field 25 (.agg #[.int .u64 a, .int .u64 b]) 0) W = .ok (.int .u64 a) W := by
      intro a b W
      simp [go_sem, Instr.field, Try.underlying25, asAgg]
    obtain ⟨be, nc, rc, vc, lt⟩ := hB
    have HB := Lib.hid be
    clear be
    by_cases hn0 : n = 0
    · subst hn0
      go_quiet (fail)
      go_wp2_with fail
      go_meet
      exact ⟨rfl, HBk.out.then (below_drewN (Below.refl _ _) _), below_drewN (Below.refl _ _) _⟩
    · have t0 : (n == 0) = false := by simp [hn0]
      have t1 : decide (a.tmod n < n) = true := decide_eq_true (Int.tmod_lt_of_pos _ (by omega))
      have H3 := Lib.hid (L3 n a b hn0)
      have HN0 := Lib.hid hn0
      clear hn0
      go_region_held3 (fun w' => w'.cell? ⟨nb, 0, none⟩ = some (.int .u64 n) ∧ w'.cell? ⟨nb + 1, 0, none⟩ = some (.int .u64 a) ∧ w'.cell? ⟨nb + 1, 1, none⟩ = some (.int .u64 b))
        (first | exact ⟨nc, rc, vc⟩ | exact ⟨k1.nc, k1.rc, k1.vc⟩ | exact ⟨k2.nc, k2.rc, k2.vc⟩ | go_keep)
        (first
          | (go_at_call 10; refine (map_to r1 (Nat.le_refl _) H3.out).mono ?_; rintro e w2 ⟨rfl, b2⟩; have k2 := k1.then b2; have e2 := e1.trans (b2.mono e1.size))
          | (go_at_call 18; refine (op_c k0.nc 3).mono ?_; rintro e w1 ⟨A1, rfl, r1, b1⟩; have k1 := k0.then b1; have e1 := e0.trans (b1.mono e0.size)))
      all_goals
        go_wp2_with fail
        go_meet
        exact ⟨by simp [t1], k2, e2⟩
  case rest =>
  obtain ⟨rfl, hB1, b12⟩ := hcut
  clear hB
  obtain ⟨W11, hW⟩ : ∃ W, W = wc := ⟨_, rfl⟩
  subst hW
  have hB := hB1
  have x11 := blk_below x10 b12
  have r12 := r11.below b12
  clear hB1 x10 r11 b12
  go_upto_region 11 with fail
  have k0 : Bx w W11.drew nb n a b := hB.then ((Below.refl _ _).drew)
  have r13 : Row W11.drew _ _ := r12.below ((Below.refl _ _).drew)
  obtain ⟨be, nc, rc, vc, lt⟩ := hB
  have HB := Lib.hid be
  clear be
  have y0 := blk_cell x11 0
  have y1 := blk_cell x11 1
  have gl := blk_lt x11
  simp at y0 y1
  go_region_held3 (fun w' => w'.cell? ⟨nb, 0, none⟩ = some (.int .u64 n) ∧ w'.cell? ⟨nb + 1, 0, none⟩ = some (.int .u64 a) ∧ w'.cell? ⟨nb + 1, 1, none⟩ = some (.int .u64 b) ∧ w'.cell? ⟨g9, 0, none⟩ = some (.int .u64 a) ∧ w'.cell? ⟨g9, 1, none⟩ = some (.int .u64 (IntKind.u64.wrap (b + a))))
    (first | exact ⟨nc, rc, vc, y0, y1⟩ | exact ⟨k1.nc, k1.rc, k1.vc, z0, z1⟩ | exact ⟨k2.nc, k2.rc, k2.vc, v0, v1⟩ | go_keep)
    (first
      | (go_at_call 10; refine (map_to (l := [⟨7, 0⟩, ⟨7, 0⟩]) (r13.below b1) (Nat.le_refl _) (L7 a b)).mono ?_; rintro e w2 ⟨rfl, b2⟩; have k2 := k1.then b2; have v0 := (b2.cell (p := ⟨g9, 0, none⟩) (Nat.lt_of_lt_of_le gl b1.size)).trans z0; have v1 := (b2.cell (p := ⟨g9, 1, none⟩) (Nat.lt_of_lt_of_le gl b1.size)).trans z1)
      | (go_at_call 15; refine (known_c _).mono ?_; rintro e w1 ⟨rfl, b1⟩; have k1 := k0.then b1; have z0 := (b1.cell (p := ⟨g9, 0, none⟩) gl).trans y0; have z1 := (b1.cell (p := ⟨g9, 1, none⟩) gl).trans y1))
  all_goals
    go_wp2_with fail
    go_ret
    exact ⟨by simp, k2.be⟩
end Go.Proofs.Ytfbejjobejdenaa.PCodeSays
