/- CodeJoins: plain laws, the closure 'may'. -/
import Derived.Test.YtfbejjobejdenaaCParts
set_option linter.unusedVariables false
set_option linter.unusedSimpArgs false
namespace Go.Proofs.Ytfbejjobejdenaa.PCodeSays
open Go.RowKit Go.Proofs.YtfbejjobejdenaaW.PrintWords Go.Proofs.YtfbejjobejdenaaW.PrintLast Go.Proofs.YtfbejjobejdenaaW.PrintMore
theorem chk_append {k : Int} {l m : List S29} (h : chk k (l ++ m) = 0) : chk k l = 0 ∧ chk k m = 0 := by
  obtain ⟨h1, h2, h3⟩ := chk_zero.1 h
  rw [List.length_append] at h2
  exact ⟨chk_zero.2 ⟨h1, by omega, fun x hx => h3 x (List.mem_append_left _ hx)⟩, chk_zero.2 ⟨h1, by omega, fun x hx => h3 x (List.mem_append_right _ hx)⟩⟩
theorem J1 {l m : List S29} (h : chk 2 (l ++ m) = 0) (r : Int × Int) : mapP (l ++ m) r = mapP m (mapP l r) := by
  obtain ⟨h1, h2⟩ := chk_append h
  simp [mapP, h, h1, h2, acts, List.foldl_append]
theorem J2 {l m : List S29} (h : chk 3 (l ++ m) = 0) (r : Int × Int) : passP (l ++ m) r = (passP l r && passP m r) := by
  obtain ⟨h1, h2⟩ := chk_append h
  simp [passP, h, h1, h2, List.all_append]
theorem J3 {k : Int} (hk : k = 2 ∨ k = 3) (l m : List S29) : (chk k (l ++ m) == 0) = ((chk k l == 0) && (chk k m == 0) && decide ((l ++ m).length ≤ 16)) := by
  rw [Bool.eq_iff_iff]
  simp only [beq_iff_eq, Bool.and_eq_true, decide_eq_true_eq]
  constructor
  · intro h
    exact ⟨chk_append h, (chk_zero.1 h).2.1⟩
  · rintro ⟨⟨h1, h2⟩, h3⟩
    refine chk_zero.2 ⟨hk, h3, fun x hx => ?_⟩
    rcases List.mem_append.1 hx with hx | hx
    · exact (chk_zero.1 h1).2.2 x hx
    · exact (chk_zero.1 h2).2.2 x hx
theorem check_to {w : World} {A : Option Addr} {c : Nat} {l : List S29} {z : Int} (kind : Int) (hr : Row w A l) (hc : l.length ≤ c) (h : chk kind l = z) : Calls Try.prog 8 #[.int .i64 kind, .slice A l.length c] w fun e w' => e = .returned (.int .i64 z) ∧ Below w.heap.size w w' := by
  have := check_c (w := w) kind hr.C hc
  rw [h] at this
  exact this
theorem check_n {w : World} {A : Option Addr} {n c : Nat} {l : List S29} {z : Int} (kind : Int) (hr : Row w A l) (hn : Hid (n = l.length)) (hc : n ≤ c) (h : chk kind l = z) : Calls Try.prog 8 #[.int .i64 kind, .slice A n c] w fun e w' => e = .returned (.int .i64 z) ∧ Below w.heap.size w w' := by
  obtain rfl := hn.out
  exact check_to kind hr hc h
theorem map_n {w : World} {A : Option Addr} {n c : Nat} {l : List S29} {a b x y : Int} (hr : Row w A l) (hn : Hid (n = l.length)) (hc : n ≤ c) (h : mapP l (a, b) = (x, y)) : Calls Try.prog 10 #[.slice A n c, .agg #[.int .u64 a, .int .u64 b]] w fun e w' => e = .returned (.agg #[.int .u64 x, .int .u64 y]) ∧ Below w.heap.size w w' := by
  obtain rfl := hn.out
  exact map_to hr hc h
theorem pass_n {w : World} {A : Option Addr} {n c : Nat} {l : List S29} {a b : Int} {x : Bool} (hr : Row w A l) (hn : Hid (n = l.length)) (hc : n ≤ c) (h : passP l (a, b) = x) : Calls Try.prog 12 #[.slice A n c, .agg #[.int .u64 a, .int .u64 b]] w fun e w' => e = .returned (.bool x) ∧ Below w.heap.size w w' := by
  obtain rfl := hn.out
  exact pass_to hr hc h
/-- The boxes and the rows. -/
structure Jx (w W : World) (nb g n4 : Nat) (A A' A2 : Option Addr) (l m : List S29) (c c' c2 : Nat) (a b : Int) : Prop where
  be : Below w.heap.size w W
  x0 : W.cell? ⟨nb, 0, none⟩ = some (.slice A l.length c)
  x1 : W.cell? ⟨nb + 1, 0, none⟩ = some (.slice A' m.length c')
  x2 : W.cell? ⟨nb + 1 + 1, 0, none⟩ = some (.int .u64 a)
  x3 : W.cell? ⟨nb + 1 + 1, 1, none⟩ = some (.int .u64 b)
  x4 : W.cell? ⟨g, 0, none⟩ = some (.slice A2 n4 c2)
  lt : nb + 1 + 1 < W.heap.size
  gl : g < W.heap.size
  rl : Row W A l
  rm : Row W A' m
  rj : Row W A2 (l ++ m)
  hn : Hid (n4 = (l ++ m).length)
theorem Jx.then {w W W' : World} {nb g n4 : Nat} {A A' A2 : Option Addr} {l m : List S29} {c c' c2 : Nat} {a b : Int} (h : Jx w W nb g n4 A A' A2 l m c c' c2 a b) (k : Below W.heap.size W W') : Jx w W' nb g n4 A A' A2 l m c c' c2 a b := by
  have := h.lt
  exact ⟨h.be.trans (k.mono h.be.size), (k.cell (p := ⟨nb, 0, none⟩) (by simp; omega)).trans h.x0, (k.cell (p := ⟨nb + 1, 0, none⟩) (by simp; omega)).trans h.x1, (k.cell (p := ⟨nb + 1 + 1, 0, none⟩) h.lt).trans h.x2, (k.cell (p := ⟨nb + 1 + 1, 1, none⟩) h.lt).trans h.x3,
    (k.cell (p := ⟨g, 0, none⟩) h.gl).trans h.x4, Nat.lt_of_lt_of_le h.lt k.size, Nat.lt_of_lt_of_le h.gl k.size, h.rl.below k, h.rm.below k, h.rj.below k, h.hn⟩
set_option maxRecDepth 100000 in
set_option maxHeartbeats 2000000 in
theorem may_c {w : World} {nb g n4 : Nat} {A A' A2 : Option Addr} {l m : List S29} {c c' c2 : Nat} {a b : Int} (h : Jx w w nb g n4 A A' A2 l m c c' c2 a b) (hc : l.length ≤ c) (hc' : m.length ≤ c') (kind : Int) :
    Calls Try.prog 17 #[.int .i64 kind, .pointer (some ⟨nb, 0, none⟩), .pointer (some ⟨nb + 1, 0, none⟩), .pointer (some ⟨g, 0, none⟩)] w fun e w' =>
      e = .returned (.bool ((chk kind l == 0) && (chk kind m == 0) && decide (n4 ≤ 16))) ∧ Below w.heap.size w w' := by
  have e0 := h.x0
  have e1 := h.x1
  have e4 := h.x4
  obtain ⟨z1, hz1⟩ : ∃ z, z = chk kind l := ⟨_, rfl⟩
  obtain ⟨z2, hz2⟩ : ∃ z, z = chk kind m := ⟨_, rfl⟩
  rw [← hz1, ← hz2]
  have H1 := Lib.hid hz1.symm
  have H2 := Lib.hid hz2.symm
  clear hz1 hz2
  have HH := Lib.hid h
  clear h
  obtain ⟨n1, hn1⟩ : ∃ n, n = l.length := ⟨_, rfl⟩
  obtain ⟨n2, hn2⟩ : ∃ n, n = m.length := ⟨_, rfl⟩
  have q0 : decide ((n4 : Int) ≤ 16) = decide (n4 ≤ 16) := by
    by_cases h : n4 ≤ 16
    · rw [decide_eq_true h, decide_eq_true (by omega)]
    · rw [decide_eq_false h, decide_eq_false (by omega)]
  clear hn1 hn2
  go_enter Try.func17, Try.ntmps17
  by_cases t1 : z1 = 0
  · have u1 : (z1 == 0) = true := by simp [t1]
    have T1 := Lib.hid t1
    clear t1
    by_cases t2 : z2 = 0
    · have v1 : (z2 == 0) = true := by simp [t2]
      have T2 := Lib.hid t2
      clear t2
      go_wp2_with (first
        | (go_at_call 8; refine (check_to kind k1.rm hc' H2.out).mono ?_; rintro e w2 ⟨rfl, b2⟩; have k2 := k1.then b2; have g4 := k2.x4)
        | (go_at_call 8; refine (check_to kind HH.out.rl hc H1.out).mono ?_; rintro e w1 ⟨rfl, b1⟩; have k1 := HH.out.then b1; have g0 := k1.x0; have g1 := k1.x1))
      go_ret
      exact ⟨by simp [u1, v1, q0], k2.be⟩
    · have v1 : (z2 == 0) = false := by simp [t2]
      have T2 := Lib.hid t2
      clear t2
      go_wp2_with (first
        | (go_at_call 8; refine (check_to kind k1.rm hc' H2.out).mono ?_; rintro e w2 ⟨rfl, b2⟩; have k2 := k1.then b2)
        | (go_at_call 8; refine (check_to kind HH.out.rl hc H1.out).mono ?_; rintro e w1 ⟨rfl, b1⟩; have k1 := HH.out.then b1; have g0 := k1.x0; have g1 := k1.x1))
      go_ret
      exact ⟨by simp [u1, v1], k2.be⟩
  · have u1 : (z1 == 0) = false := by simp [t1]
    have T1 := Lib.hid t1
    clear t1
    go_wp2_with (first
      | (go_at_call 8; refine (check_to kind HH.out.rl hc H1.out).mono ?_; rintro e w1 ⟨rfl, b1⟩; have k1 := HH.out.then b1))
    go_ret
    exact ⟨by simp [u1], k1.be⟩
end Go.Proofs.Ytfbejjobejdenaa.PCodeSays
