/- TopNames: the walks. -/
import Derived.Test.YtjfkfkfcnlhfaaaDoorBase
import Derived.Laws.Concat
import Derived.Deep.DeepCutAuto
import Derived.Deep.RegionHeld3
set_option linter.unusedVariables false
set_option linter.unusedSimpArgs false
namespace Go.Proofs.YtjfkfkfcnlhfaaaDoor
open Go.RowKit
/-- One operation of a region taken first, its slot named. -/
theorem take_d {P : Program} {ops : Array Oper} {Q : Exit → Act → World → Prop} {md : Region.Mode} {S : World → Prop} (i d : Nat) {oi : Oper} {v : Value} {fuel : Nat} {listed : Array Bool} {a : Act} {w : World} (hi : ops[i]? = some oi) (hd : oi.dst = some d)
    (hs : Region.noSelect ops = true) (hf : Region.free md ops listed i = true) (hr : (Region.ready md ops listed).contains i = true)
    (hQ : ∀ c a w, Q (.panic c) (a.put (some d) v) w → Q (.panic c) a w) (hw : Region.wanted oi (yielded ops a.tmps) = true) (hy : ∀ w, S w → (execOp a.eval oi).run P w = .ok (.value v) w) (hS : S w)
    (h : wpAnyH P md ops Q S fuel (listed.setIfInBounds i true) (a.put (some d) v) w) : wpAnyH P md ops Q S (fuel + 1) listed a w := by
  refine wpAnyH_take hi hs hf hr ?_ (Or.inl ⟨hw, hy⟩) hS ?_
  · rw [hd]; exact hQ
  · rw [hd]; exact h
/-- One operation of a region that its guard passes over. -/
theorem off_d {P : Program} {ops : Array Oper} {Q : Exit → Act → World → Prop} {md : Region.Mode} {S : World → Prop} (i d : Nat) {oi : Oper} {fuel : Nat} {listed : Array Bool} {a : Act} {w : World} (hi : ops[i]? = some oi) (hd : oi.dst = some d)
    (hs : Region.noSelect ops = true) (hf : Region.free md ops listed i = true) (hr : (Region.ready md ops listed).contains i = true)
    (hQ : ∀ c a w, Q (.panic c) (a.put (some d) undef) w → Q (.panic c) a w) (hw : Region.wanted oi (yielded ops a.tmps) = false) (hS : S w)
    (h : wpAnyH P md ops Q S fuel (listed.setIfInBounds i true) (a.put (some d) undef) w) : wpAnyH P md ops Q S (fuel + 1) listed a w := by
  refine wpAnyH_take hi hs hf hr ?_ (Or.inr ⟨hw, rfl⟩) hS ?_
  · rw [hd]; exact hQ
  · rw [hd]; exact h
set_option maxRecDepth 100000 in
set_option maxHeartbeats 2000000 in
theorem small_28 (w : World) : Calls Tryd.prog 9 #[.int .i64 28] w fun e w' => e = .returned (.string ⟨#[50, 56]⟩) ∧ Below w.heap.size w w' := by
  go_enter Tryd.func9, Tryd.ntmps9
  go_wp2
  go_ret
  exact ⟨by kernel_rfl, Below.refl _ _⟩
theorem small_0 (w : World) : Calls Tryd.prog 9 #[.int .i64 0] w fun e w' => e = .returned (.string ⟨#[48]⟩) ∧ Below w.heap.size w w' := by
  go_enter Tryd.func9, Tryd.ntmps9
  go_wp2
  go_ret
  exact ⟨by kernel_rfl, Below.refl _ _⟩
theorem fmt_c (n : Int) (s : ByteArray) (h0 : 0 ≤ n) (h1 : n < 100) (hs : ∀ w, Calls Tryd.prog 9 #[.int .i64 n] w fun e w' => e = .returned (.string s) ∧ Below w.heap.size w w') (w : World) :
    Calls Tryd.prog 8 #[.int .i64 n, .int .i64 10] w fun e w' => e = .returned (.string s) ∧ Below w.heap.size w w' := by
  have t0 : decide (0 ≤ n) = true := by simp [h0]
  have t1 : decide (n < 100) = true := by simp [h1]
  go_enter Tryd.func8, Tryd.ntmps8
  go_wp2_with (go_at_call 9; refine (hs _).mono ?_; rintro e w1 ⟨rfl, b1⟩)
  go_ret
  exact ⟨rfl, b1⟩
theorem itoa_c (n : Int) (s : ByteArray) (h0 : 0 ≤ n) (h1 : n < 100) (hs : ∀ w, Calls Tryd.prog 9 #[.int .i64 n] w fun e w' => e = .returned (.string s) ∧ Below w.heap.size w w') (w : World) :
    Calls Tryd.prog 6 #[.int .i64 n] w fun e w' => e = .returned (.string s) ∧ Below w.heap.size w w' := by
  have h7 : ∀ w, Calls Tryd.prog 7 #[.int .i64 n] w fun e w' => e = .returned (.string s) ∧ Below w.heap.size w w' := fun w => by
    go_enter Tryd.func7, Tryd.ntmps7
    go_wp2_with (go_at_call 8; refine (fmt_c n s h0 h1 hs _).mono ?_; rintro e w1 ⟨rfl, b1⟩)
    go_ret
    exact ⟨rfl, b1⟩
  go_enter Tryd.func6, Tryd.ntmps6
  go_wp2_with (go_at_call 7; refine (h7 _).mono ?_; rintro e w1 ⟨rfl, b1⟩)
  go_ret
  exact ⟨rfl, b1⟩
theorem err_28 (w : World) : Calls Tryd.prog 5 #[.int .i64 28] w fun e w' => e = .returned (.string ⟨#[101, 114, 114, 111, 114, 32, 50, 56]⟩) ∧ Below w.heap.size w w' := by
  go_enter Tryd.func5, Tryd.ntmps5
  go_wp2_with (go_at_call 6; refine (itoa_c 28 ⟨#[50, 56]⟩ (by omega) (by omega) small_28 _).mono ?_; rintro e w1 ⟨rfl, b1⟩)
  go_ret
  exact ⟨by kernel_rfl, b1⟩
theorem err_0 (w : World) : Calls Tryd.prog 5 #[.int .i64 0] w fun e w' => e = .returned (.string ⟨#[101, 114, 114, 111, 114, 32, 48]⟩) ∧ Below w.heap.size w w' := by
  go_enter Tryd.func5, Tryd.ntmps5
  go_wp2_with (go_at_call 6; refine (itoa_c 0 ⟨#[48]⟩ (by omega) (by omega) small_0 _).mono ?_; rintro e w1 ⟨rfl, b1⟩)
  go_ret
  exact ⟨by kernel_rfl, b1⟩
def Ints (w : World) (b : Nat) (zs : List Int) : Prop := ∀ i (h : i < zs.length), w.cell? ⟨b, i, none⟩ = some (.int .i64 zs[i])
theorem Ints.of {w : World} {b : Nat} {zs : List Int} {t : TypeId} (h : w.heap[b]? = some (.cells (zs.map (fun n => Value.int .i64 n)).toArray t (0, 0))) : Ints w b zs := fun i hi => by
  rw [blk_cell h i]
  simp [hi]
theorem Ints.below {w w' : World} {b : Nat} {zs : List Int} (h : Ints w b zs) (hb : b < w.heap.size) (k : Below w.heap.size w w') : Ints w' b zs := fun i hi => (k.cell (p := ⟨b, i, none⟩) hb).trans (h i hi)
set_option maxHeartbeats 1000000 in
theorem same_c {w : World} {b b' n : Nat} {zs : List Int} (h : Ints w b zs) (h' : Ints w b' zs) (hn : n = zs.length) (hs : n ≤ 1000) :
    Calls Tryd.prog 4 #[.slice (some ⟨b, 0, none⟩) n n, .slice (some ⟨b', 0, none⟩) n n] w fun e w' => e = .returned (.bool true) ∧ Below w.heap.size w w' := by
  have HN := Lib.hid hn
  have H := Lib.hid h
  have H' := Lib.hid h'
  clear h h' hn
  go_enter Tryd.func4, Tryd.ntmps4
  go_wp2_with fail
  go_loopw [13] (fun s13 wr => ∃ i : Nat, s13 = .int .i64 i ∧ i ≤ n ∧ Hid (∃ q, wr = w.drewN q)) (fun s13 _ => n - (intOf s13).toNat)
  case atStart => exact ⟨0, rfl, by omega, Lib.hid ⟨0, rfl⟩⟩
  case round =>
    obtain ⟨i, rfl, hi, HQ⟩ := hrel
    by_cases hlt : i < n
    · have hil : i < zs.length := by rw [← HN.out]; exact hlt
      obtain ⟨q, rfl⟩ := HQ.out
      have e0 : (w.drewN q).cell? ⟨b, i, none⟩ = some (.int .i64 zs[i]) := H.out i hil
      have e1 : (w.drewN q).cell? ⟨b', i, none⟩ = some (.int .i64 zs[i]) := H'.out i hil
      obtain ⟨z, hz⟩ : ∃ z, z = zs[i] := ⟨_, rfl⟩
      rw [← hz] at e0 e1
      clear hz
      go_upto_region 6 with fail
      refine wp_region_held_drew (S := fun w' => w'.cell? ⟨b, i, none⟩ = some (.int .i64 z) ∧ w'.cell? ⟨b', i, none⟩ = some (.int .i64 z)) (by kernel_rfl) ⟨e0, e1⟩ (fun hHeld => ?_)
      refine take_d (v := ?_) 0 16 rfl rfl (by kernel_rfl) (by kernel_rfl) (by kernel_rfl) (fun _ _ _ h => h) (by kernel_rfl) ?_ (by assumption) ?_
      rotate_left
      · (intro w hSw; (try dsimp only at hSw); go_simp; first | done | with_reducible rfl)
      try simp only [Act.put, List.setIfInBounds_toArray, List.set_cons_zero, List.set_cons_succ]
      refine take_d (v := ?_) 1 17 rfl rfl (by kernel_rfl) (by kernel_rfl) (by kernel_rfl) (fun _ _ _ h => h) (by kernel_rfl) ?_ (by assumption) ?_
      rotate_left
      · (intro w hSw; (try dsimp only at hSw); go_simp; first | done | with_reducible rfl)
      try simp only [Act.put, List.setIfInBounds_toArray, List.set_cons_zero, List.set_cons_succ]
      refine take_d (v := ?_) 2 18 rfl rfl (by kernel_rfl) (by kernel_rfl) (by kernel_rfl) (fun _ _ _ h => h) (by kernel_rfl) ?_ (by assumption) ?_
      rotate_left
      · (intro w hSw; (try dsimp only at hSw); go_simp; first | done | with_reducible rfl)
      try simp only [Act.put, List.setIfInBounds_toArray, List.set_cons_zero, List.set_cons_succ]
      refine take_d (v := ?_) 3 19 rfl rfl (by kernel_rfl) (by kernel_rfl) (by kernel_rfl) (fun _ _ _ h => h) (by kernel_rfl) ?_ (by assumption) ?_
      rotate_left
      · (intro w hSw; (try dsimp only at hSw); go_simp; first | done | with_reducible rfl)
      try simp only [Act.put, List.setIfInBounds_toArray, List.set_cons_zero, List.set_cons_succ]
      refine take_d (v := ?_) 4 20 rfl rfl (by kernel_rfl) (by kernel_rfl) (by kernel_rfl) (fun _ _ _ h => h) (by kernel_rfl) ?_ (by assumption) ?_
      rotate_left
      · (intro w hSw; (try dsimp only at hSw); go_simp; first | done | with_reducible rfl)
      try simp only [Act.put, List.setIfInBounds_toArray, List.set_cons_zero, List.set_cons_succ]
      refine take_d (v := ?_) 5 21 rfl rfl (by kernel_rfl) (by kernel_rfl) (by kernel_rfl) (fun _ _ _ h => h) (by kernel_rfl) ?_ (by assumption) ?_
      rotate_left
      · (intro w hSw; (try dsimp only at hSw); go_simp; first | done | with_reducible rfl)
      try simp only [Act.put, List.setIfInBounds_toArray, List.set_cons_zero, List.set_cons_succ]
      refine take_d (v := ?_) 6 22 rfl rfl (by kernel_rfl) (by kernel_rfl) (by kernel_rfl) (fun _ _ _ h => h) (by kernel_rfl) ?_ (by assumption) ?_
      rotate_left
      · (intro w hSw; (try dsimp only at hSw); go_simp; first | done | with_reducible rfl)
      try simp only [Act.put, List.setIfInBounds_toArray, List.set_cons_zero, List.set_cons_succ]
      refine take_d (v := ?_) 7 23 rfl rfl (by kernel_rfl) (by kernel_rfl) (by kernel_rfl) (fun _ _ _ h => h) (by kernel_rfl) ?_ (by assumption) ?_
      rotate_left
      · (intro w hSw; (try dsimp only at hSw); go_simp; first | done | with_reducible rfl)
      try simp only [Act.put, List.setIfInBounds_toArray, List.set_cons_zero, List.set_cons_succ]
      refine take_d (v := ?_) 8 24 rfl rfl (by kernel_rfl) (by kernel_rfl) (by kernel_rfl) (fun _ _ _ h => h) (by kernel_rfl) ?_ (by assumption) ?_
      rotate_left
      · (intro w hSw; (try dsimp only at hSw); go_simp; first | done | with_reducible rfl)
      try simp only [Act.put, List.setIfInBounds_toArray, List.set_cons_zero, List.set_cons_succ]
      refine wpAnyH_done (by kernel_rfl) ?_ _
      go_wp2_with fail
      go_roundw
      case rel => exact ⟨i + 1, by go_num, by omega, Lib.hid (by first | exact ⟨q + 1, rfl⟩ | exact ⟨_, rfl⟩)⟩
      case measure => simp [intOf]; omega
    · go_wp2_with fail
      go_ret
      obtain ⟨q, rfl⟩ := HQ.out
      exact ⟨rfl, below_drewN (Below.refl _ _) q⟩
end Go.Proofs.YtjfkfkfcnlhfaaaDoor
