/- The flows: the document's Do: the contracts. -/
import Derived.Test.YtfbejjobejdenaaFPlus
set_option linter.unusedVariables false
set_option linter.unusedSimpArgs false
namespace Go.Proofs.Ytfbejjobejdenaa.PCodeSays
open Go.RowKit Go.Proofs.YtfbejjobejdenaaW.PrintWords Go.Proofs.YtfbejjobejdenaaW.PrintLast Go.Proofs.YtfbejjobejdenaaW.PrintMore
section
variable {w : World} {A : Option Addr} {c : Nat} {l : List S29}
set_option maxRecDepth 100000 in
set_option maxHeartbeats 2000000 in
theorem rdo_map (hr : Row w A l) (hc : l.length ≤ c) (ins outs pa pb pc bd : Int) (cv : Value) (st : Bool) (h1 : cv.oneCell' = true) (ta tb tc a b : Int) (a1 b1 : Int) (hm : mapP l (a, b) = (a1, b1)) :
    Calls Try.prog 31 #[nodeV 2 ins outs A l.length c ⟨pa, pb, pc⟩ bd cv st, .agg #[.int .u64 ta, .int .u64 tb, .int .u64 tc], .agg #[.int .u64 a, .int .u64 b]] w fun e w' => e = .returned (.tuple #[.agg #[.int .u64 ta, .int .u64 tb, .int .u64 tc], .agg #[.int .u64 a1, .int .u64 b1], .bool true]) ∧ Below w.heap.size w w' := by
  have hcall : ∀ W, Below w.heap.size w W → Calls Try.prog 11 #[.slice A l.length c, .agg #[.int .u64 a, .int .u64 b]] W fun e w' => e = .returned (.agg #[.int .u64 a1, .int .u64 b1]) ∧ Below W.heap.size W w' := fun W hb => by
    have := rmap_c a b (hr.below hb).C hc
    rw [hm] at this
    exact this
  obtain ⟨n, hn⟩ : ∃ n, n = l.length := ⟨_, rfl⟩
  rw [← hn] at hcall ⊢
  clear hn hm hr hc h1
  simp only [nodeV]
  obtain ⟨nb, hnb⟩ : ∃ nb, nb = w.heap.size := ⟨_, rfl⟩
  go_enter Try.func31, Try.ntmps31
  go_upto_region 1 with fail
  have k0 := D5.start (w := w) (rc := #[.int .i64 2, .int .i64 ins, .int .i64 outs, .slice A n c, .int .u64 pa, .int .u64 pb, .int .u64 pc, .int .u64 bd, cv, .bool st]) (ty := 47) (ta := ta) (tb := tb) (tc := tc) (a := a) (b := b)
  generalize (((((w.alloc (.cells #[.int .i64 2, .int .i64 ins, .int .i64 outs, .slice A n c, .int .u64 pa, .int .u64 pb, .int .u64 pc, .int .u64 bd, cv, .bool st] 47)).alloc (.cells #[.int .u64 ta, .int .u64 tb, .int .u64 tc] 58)).alloc (.cells #[.int .u64 a, .int .u64 b] 25)).alloc (.cells #[.int .u64 0, .int .u64 0, .int .u64 0] 58)).alloc (.cells #[.int .u64 0, .int .u64 0] 25)) = W0 at *
  rw [← hnb] at k0 ⊢
  have HNB := Lib.hid hnb
  clear hnb
  have HC := Lib.hid hcall
  clear hcall
  have x0 := blk_cell k0.x0 0
  have x3 := blk_cell k0.x0 3
  have x4 := blk_cell k0.x0 4
  have x5 := blk_cell k0.x0 5
  have x6 := blk_cell k0.x0 6
  have x7 := blk_cell k0.x0 7
  simp at x0 x3 x4 x5 x6 x7
  obtain ⟨y0, y1, y2, y3, y4⟩ := k0.cells
  go_upto_region 3 with fail
  have kd := k0.then ((Below.refl _ _).drew)
  clear k0
  refine wp_region_held_drew (S := fun w' => w'.cell? ⟨nb, 3, none⟩ = some (.slice A n c) ∧ w'.cell? ⟨nb + 1, 0, none⟩ = some (.int .u64 ta) ∧ w'.cell? ⟨nb + 1, 1, none⟩ = some (.int .u64 tb) ∧ w'.cell? ⟨nb + 1, 2, none⟩ = some (.int .u64 tc) ∧ w'.cell? ⟨nb + 2, 0, none⟩ = some (.int .u64 a) ∧ w'.cell? ⟨nb + 2, 1, none⟩ = some (.int .u64 b)) (by kernel_rfl) ⟨x3, y0, y1, y2, y3, y4⟩ (fun hHeld => ?_)
  clear x0 x3 x4 x5 x6 x7
  refine take_d (v := ?_) 0 20 rfl rfl (by kernel_rfl) (by kernel_rfl) (by kernel_rfl) (fun _ _ _ h => h) (by kernel_rfl) ?_ (by assumption) ?_
  rotate_left
  · (intro w hSw; (try dsimp only at hSw); go_simp; first | done | with_reducible rfl)
  try simp only [Act.put, List.setIfInBounds_toArray, List.set_cons_zero, List.set_cons_succ]
  refine take_d (v := ?_) 1 21 rfl rfl (by kernel_rfl) (by kernel_rfl) (by kernel_rfl) (fun _ _ _ h => h) (by kernel_rfl) ?_ (by assumption) ?_
  rotate_left
  · (intro w hSw; (try dsimp only at hSw); go_simp; first | done | with_reducible rfl)
  try simp only [Act.put, List.setIfInBounds_toArray, List.set_cons_zero, List.set_cons_succ]
  refine take_d (v := ?_) 2 22 rfl rfl (by kernel_rfl) (by kernel_rfl) (by kernel_rfl) (fun _ _ _ h => h) (by kernel_rfl) ?_ (by assumption) ?_
  rotate_left
  · (intro w hSw; (try dsimp only at hSw); go_simp; first | done | with_reducible rfl)
  try simp only [Act.put, List.setIfInBounds_toArray, List.set_cons_zero, List.set_cons_succ]
  refine take_d (v := ?_) 3 23 rfl rfl (by kernel_rfl) (by kernel_rfl) (by kernel_rfl) (fun _ _ _ h => h) (by kernel_rfl) ?_ (by assumption) ?_
  rotate_left
  · (intro w hSw; (try dsimp only at hSw); go_simp; first | done | with_reducible rfl)
  try simp only [Act.put, List.setIfInBounds_toArray, List.set_cons_zero, List.set_cons_succ]
  refine wpAnyH_ready (rs := [4]) (by kernel_rfl) (by simp) ?_
  refine AllReadyH.cons rfl (fun K hK => ?_) AllReadyH.nil
  go_simp
  (refine (HC.out _ (HNB.out ▸ kd.be)).mono ?_; rintro e w1 ⟨rfl, bb1⟩; have k1 := kd.then bb1; have x3 := blk_cell k1.x0 3; simp at x3)
  go_wp2_with fail
  refine hK.out _ _ ⟨x3, k1.cells⟩ (fun hHeld => ?_)
  clear hK K
  try simp only [Act.put, List.setIfInBounds_toArray, List.set_cons_zero, List.set_cons_succ]
  clear hHeld y0 y1 y2 y3 y4
  obtain ⟨y0, y1, y2, y3, y4⟩ := k1.cells
  obtain ⟨⟨q0, q1, q2, q3, q4⟩, f0, f1, f2, f3, f4⟩ := k1.outs
  refine wpAnyH_ready (rs := [5]) (by kernel_rfl) (by simp) ?_
  refine AllReadyH.cons rfl (fun K hK => ?_) AllReadyH.nil
  go_simp
  go_wp2_with fail
  refine hK.out _ _ (by refine ⟨?_, ?_, ?_, ?_, ?_, ?_⟩ <;> (repeat rw [far (by omega)]) <;> assumption) (fun hHeld => ?_)
  clear hK K
  try simp only [Act.put, List.setIfInBounds_toArray, List.set_cons_zero, List.set_cons_succ]
  refine wpAnyH_ready (rs := [6]) (by kernel_rfl) (by simp) ?_
  refine AllReadyH.cons rfl (fun K hK => ?_) AllReadyH.nil
  go_simp
  go_wp2_with fail
  refine hK.out _ _ (by refine ⟨?_, ?_, ?_, ?_, ?_, ?_⟩ <;> (repeat rw [far (by omega)]) <;> assumption) (fun hHeld => ?_)
  clear hK K
  try simp only [Act.put, List.setIfInBounds_toArray, List.set_cons_zero, List.set_cons_succ]
  refine wpAnyH_ready (rs := [7]) (by kernel_rfl) (by simp) ?_
  refine AllReadyH.cons rfl (fun K hK => ?_) AllReadyH.nil
  go_simp
  go_wp2_with fail
  refine hK.out _ _ (by refine ⟨?_, ?_, ?_, ?_, ?_, ?_⟩ <;> (repeat rw [far (by omega)]) <;> assumption) (fun hHeld => ?_)
  clear hK K
  try simp only [Act.put, List.setIfInBounds_toArray, List.set_cons_zero, List.set_cons_succ]
  refine wpAnyH_done (by kernel_rfl) ?_ _
  go_wp2_with fail
  exact bodyPost_ret (v := .tuple #[.agg #[.int .u64 ta, .int .u64 tb, .int .u64 tc], .agg #[.int .u64 a1, .int .u64 b1], .bool true]) (by simp [results, Try.results31, go_sem, *]) rfl ⟨rfl, by rw [← HNB.out]; (repeat' (first | exact k1.be | refine Below.setCell ?_ (by (try dsimp only); omega) _)); all_goals exact k1.be⟩
set_option maxRecDepth 100000 in
set_option maxHeartbeats 2000000 in
theorem rdo_filter_true (hr : Row w A l) (hc : l.length ≤ c) (ins outs pa pb pc bd : Int) (cv : Value) (st : Bool) (h1 : cv.oneCell' = true) (ta tb tc a b : Int) (hm : passP l (a, b) = true) :
    Calls Try.prog 31 #[nodeV 3 ins outs A l.length c ⟨pa, pb, pc⟩ bd cv st, .agg #[.int .u64 ta, .int .u64 tb, .int .u64 tc], .agg #[.int .u64 a, .int .u64 b]] w fun e w' => e = .returned (.tuple #[.agg #[.int .u64 ta, .int .u64 tb, .int .u64 tc], .agg #[.int .u64 a, .int .u64 b], .bool true]) ∧ Below w.heap.size w w' := by
  have hcall : ∀ W, Below w.heap.size w W → Calls Try.prog 13 #[.slice A l.length c, .agg #[.int .u64 a, .int .u64 b]] W fun e w' => e = .returned (.bool true) ∧ Below W.heap.size W w' := fun W hb => by
    have := rpass_c a b (hr.below hb).C hc
    rw [hm] at this
    exact this
  obtain ⟨n, hn⟩ : ∃ n, n = l.length := ⟨_, rfl⟩
  rw [← hn] at hcall ⊢
  clear hn hm hr hc h1
  simp only [nodeV]
  obtain ⟨nb, hnb⟩ : ∃ nb, nb = w.heap.size := ⟨_, rfl⟩
  go_enter Try.func31, Try.ntmps31
  go_upto_region 1 with fail
  have k0 := D5.start (w := w) (rc := #[.int .i64 3, .int .i64 ins, .int .i64 outs, .slice A n c, .int .u64 pa, .int .u64 pb, .int .u64 pc, .int .u64 bd, cv, .bool st]) (ty := 47) (ta := ta) (tb := tb) (tc := tc) (a := a) (b := b)
  generalize (((((w.alloc (.cells #[.int .i64 3, .int .i64 ins, .int .i64 outs, .slice A n c, .int .u64 pa, .int .u64 pb, .int .u64 pc, .int .u64 bd, cv, .bool st] 47)).alloc (.cells #[.int .u64 ta, .int .u64 tb, .int .u64 tc] 58)).alloc (.cells #[.int .u64 a, .int .u64 b] 25)).alloc (.cells #[.int .u64 0, .int .u64 0, .int .u64 0] 58)).alloc (.cells #[.int .u64 0, .int .u64 0] 25)) = W0 at *
  rw [← hnb] at k0 ⊢
  have HNB := Lib.hid hnb
  clear hnb
  have HC := Lib.hid hcall
  clear hcall
  have x0 := blk_cell k0.x0 0
  have x3 := blk_cell k0.x0 3
  have x4 := blk_cell k0.x0 4
  have x5 := blk_cell k0.x0 5
  have x6 := blk_cell k0.x0 6
  have x7 := blk_cell k0.x0 7
  simp at x0 x3 x4 x5 x6 x7
  obtain ⟨y0, y1, y2, y3, y4⟩ := k0.cells
  go_upto_region 8 with (go_at_call 13; refine (HC.out _ (HNB.out ▸ k0.be)).mono ?_; rintro e w1 ⟨rfl, bb1⟩; have k1 := k0.then bb1; obtain ⟨⟨q0, q1, q2, q3, q4⟩, f0, f1, f2, f3, f4⟩ := k1.outs)
  clear y0 y1 y2 y3 y4 x0 x3 x4 x5 x6 x7 k0 q0 q1 q2 q3 q4 f0 f1 f2 f3 f4
  obtain ⟨y0, y1, y2, y3, y4⟩ := k1.cells
  have kd := k1.then ((Below.refl _ _).drew)
  refine wp_region_held_drew (S := fun w' => w'.cell? ⟨nb + 1, 0, none⟩ = some (.int .u64 ta) ∧ w'.cell? ⟨nb + 1, 1, none⟩ = some (.int .u64 tb) ∧ w'.cell? ⟨nb + 1, 2, none⟩ = some (.int .u64 tc) ∧ w'.cell? ⟨nb + 2, 0, none⟩ = some (.int .u64 a) ∧ w'.cell? ⟨nb + 2, 1, none⟩ = some (.int .u64 b)) (by kernel_rfl) ⟨y0, y1, y2, y3, y4⟩ (fun hHeld => ?_)
  obtain ⟨y0, y1, y2, y3, y4⟩ := kd.cells
  obtain ⟨⟨q0, q1, q2, q3, q4⟩, f0, f1, f2, f3, f4⟩ := kd.outs
  generalize w1.drew = wd at *
  refine take_d (v := ?_) 0 35 rfl rfl (by kernel_rfl) (by kernel_rfl) (by kernel_rfl) (fun _ _ _ h => h) (by kernel_rfl) ?_ (by assumption) ?_
  rotate_left
  · (intro w hSw; (try dsimp only at hSw); go_simp; first | done | with_reducible rfl)
  try simp only [Act.put, List.setIfInBounds_toArray, List.set_cons_zero, List.set_cons_succ]
  refine take_d (v := ?_) 1 36 rfl rfl (by kernel_rfl) (by kernel_rfl) (by kernel_rfl) (fun _ _ _ h => h) (by kernel_rfl) ?_ (by assumption) ?_
  rotate_left
  · (intro w hSw; (try dsimp only at hSw); go_simp; first | done | with_reducible rfl)
  try simp only [Act.put, List.setIfInBounds_toArray, List.set_cons_zero, List.set_cons_succ]
  refine wpAnyH_ready (rs := [2]) (by kernel_rfl) (by simp) ?_
  refine AllReadyH.cons rfl (fun K hK => ?_) AllReadyH.nil
  go_simp
  go_wp2_with fail
  refine hK.out _ _ (by refine ⟨?_, ?_, ?_, ?_, ?_⟩ <;> (repeat rw [far (by omega)]) <;> assumption) (fun hHeld => ?_)
  clear hK K
  try simp only [Act.put, List.setIfInBounds_toArray, List.set_cons_zero, List.set_cons_succ]
  refine wpAnyH_ready (rs := [3]) (by kernel_rfl) (by simp) ?_
  refine AllReadyH.cons rfl (fun K hK => ?_) AllReadyH.nil
  go_simp
  go_wp2_with fail
  refine hK.out _ _ (by refine ⟨?_, ?_, ?_, ?_, ?_⟩ <;> (repeat rw [far (by omega)]) <;> assumption) (fun hHeld => ?_)
  clear hK K
  try simp only [Act.put, List.setIfInBounds_toArray, List.set_cons_zero, List.set_cons_succ]
  refine wpAnyH_ready (rs := [4]) (by kernel_rfl) (by simp) ?_
  refine AllReadyH.cons rfl (fun K hK => ?_) AllReadyH.nil
  go_simp
  go_wp2_with fail
  refine hK.out _ _ (by refine ⟨?_, ?_, ?_, ?_, ?_⟩ <;> (repeat rw [far (by omega)]) <;> assumption) (fun hHeld => ?_)
  clear hK K
  try simp only [Act.put, List.setIfInBounds_toArray, List.set_cons_zero, List.set_cons_succ]
  refine wpAnyH_done (by kernel_rfl) ?_ _
  go_wp2_with fail
  exact bodyPost_ret (v := .tuple #[.agg #[.int .u64 ta, .int .u64 tb, .int .u64 tc], .agg #[.int .u64 a, .int .u64 b], .bool true]) (by simp [results, Try.results31, go_sem, *]) rfl ⟨rfl, by rw [← HNB.out]; (repeat' (first | exact kd.be | refine Below.setCell ?_ (by (try dsimp only); omega) _)); all_goals exact kd.be⟩
set_option maxRecDepth 100000 in
set_option maxHeartbeats 2000000 in
theorem rdo_filter_false (hr : Row w A l) (hc : l.length ≤ c) (ins outs pa pb pc bd : Int) (cv : Value) (st : Bool) (h1 : cv.oneCell' = true) (ta tb tc a b : Int) (hm : passP l (a, b) = false) :
    Calls Try.prog 31 #[nodeV 3 ins outs A l.length c ⟨pa, pb, pc⟩ bd cv st, .agg #[.int .u64 ta, .int .u64 tb, .int .u64 tc], .agg #[.int .u64 a, .int .u64 b]] w fun e w' => e = .returned (.tuple #[.agg #[.int .u64 0, .int .u64 0, .int .u64 0], .agg #[.int .u64 0, .int .u64 0], .bool false]) ∧ Below w.heap.size w w' := by
  have hcall : ∀ W, Below w.heap.size w W → Calls Try.prog 13 #[.slice A l.length c, .agg #[.int .u64 a, .int .u64 b]] W fun e w' => e = .returned (.bool false) ∧ Below W.heap.size W w' := fun W hb => by
    have := rpass_c a b (hr.below hb).C hc
    rw [hm] at this
    exact this
  obtain ⟨n, hn⟩ : ∃ n, n = l.length := ⟨_, rfl⟩
  rw [← hn] at hcall ⊢
  clear hn hm hr hc h1
  simp only [nodeV]
  obtain ⟨nb, hnb⟩ : ∃ nb, nb = w.heap.size := ⟨_, rfl⟩
  go_enter Try.func31, Try.ntmps31
  go_upto_region 1 with fail
  have k0 := D5.start (w := w) (rc := #[.int .i64 3, .int .i64 ins, .int .i64 outs, .slice A n c, .int .u64 pa, .int .u64 pb, .int .u64 pc, .int .u64 bd, cv, .bool st]) (ty := 47) (ta := ta) (tb := tb) (tc := tc) (a := a) (b := b)
  generalize (((((w.alloc (.cells #[.int .i64 3, .int .i64 ins, .int .i64 outs, .slice A n c, .int .u64 pa, .int .u64 pb, .int .u64 pc, .int .u64 bd, cv, .bool st] 47)).alloc (.cells #[.int .u64 ta, .int .u64 tb, .int .u64 tc] 58)).alloc (.cells #[.int .u64 a, .int .u64 b] 25)).alloc (.cells #[.int .u64 0, .int .u64 0, .int .u64 0] 58)).alloc (.cells #[.int .u64 0, .int .u64 0] 25)) = W0 at *
  rw [← hnb] at k0 ⊢
  have HNB := Lib.hid hnb
  clear hnb
  have HC := Lib.hid hcall
  clear hcall
  have x0 := blk_cell k0.x0 0
  have x3 := blk_cell k0.x0 3
  have x4 := blk_cell k0.x0 4
  have x5 := blk_cell k0.x0 5
  have x6 := blk_cell k0.x0 6
  have x7 := blk_cell k0.x0 7
  simp at x0 x3 x4 x5 x6 x7
  obtain ⟨y0, y1, y2, y3, y4⟩ := k0.cells
  go_wp2_with (go_at_call 13; refine (HC.out _ (HNB.out ▸ k0.be)).mono ?_; rintro e w1 ⟨rfl, bb1⟩; have k1 := k0.then bb1; obtain ⟨⟨q0, q1, q2, q3, q4⟩, f0, f1, f2, f3, f4⟩ := k1.outs)
  exact bodyPost_ret (v := .tuple #[.agg #[.int .u64 0, .int .u64 0, .int .u64 0], .agg #[.int .u64 0, .int .u64 0], .bool false]) (by simp [results, Try.results31, go_sem, *]) rfl ⟨rfl, by rw [← HNB.out]; (repeat' (first | exact k1.be | refine Below.setCell ?_ (by (try dsimp only); omega) _)); all_goals exact k1.be⟩
set_option maxRecDepth 100000 in
set_option maxHeartbeats 2000000 in
theorem rdo_join (hr : Row w A l) (hc : l.length ≤ c) (ins outs pa pb pc bd : Int) (cv : Value) (st : Bool) (h1 : cv.oneCell' = true) (ta tb tc a b : Int)  :
    Calls Try.prog 31 #[nodeV 4 ins outs A l.length c ⟨pa, pb, pc⟩ bd cv st, .agg #[.int .u64 ta, .int .u64 tb, .int .u64 tc], .agg #[.int .u64 a, .int .u64 b]] w fun e w' => e = .returned (.tuple #[.agg #[.int .u64 ta, .int .u64 tb, .int .u64 tc], .agg #[.int .u64 a, .int .u64 b], .bool true]) ∧ Below w.heap.size w w' := by
  obtain ⟨n, hn⟩ : ∃ n, n = l.length := ⟨_, rfl⟩
  rw [← hn]
  clear hn hr hc h1
  simp only [nodeV]
  obtain ⟨nb, hnb⟩ : ∃ nb, nb = w.heap.size := ⟨_, rfl⟩
  go_enter Try.func31, Try.ntmps31
  go_upto_region 1 with fail
  have k0 := D5.start (w := w) (rc := #[.int .i64 4, .int .i64 ins, .int .i64 outs, .slice A n c, .int .u64 pa, .int .u64 pb, .int .u64 pc, .int .u64 bd, cv, .bool st]) (ty := 47) (ta := ta) (tb := tb) (tc := tc) (a := a) (b := b)
  generalize (((((w.alloc (.cells #[.int .i64 4, .int .i64 ins, .int .i64 outs, .slice A n c, .int .u64 pa, .int .u64 pb, .int .u64 pc, .int .u64 bd, cv, .bool st] 47)).alloc (.cells #[.int .u64 ta, .int .u64 tb, .int .u64 tc] 58)).alloc (.cells #[.int .u64 a, .int .u64 b] 25)).alloc (.cells #[.int .u64 0, .int .u64 0, .int .u64 0] 58)).alloc (.cells #[.int .u64 0, .int .u64 0] 25)) = W0 at *
  rw [← hnb] at k0 ⊢
  have HNB := Lib.hid hnb
  clear hnb
  have x0 := blk_cell k0.x0 0
  have x3 := blk_cell k0.x0 3
  have x4 := blk_cell k0.x0 4
  have x5 := blk_cell k0.x0 5
  have x6 := blk_cell k0.x0 6
  have x7 := blk_cell k0.x0 7
  simp at x0 x3 x4 x5 x6 x7
  obtain ⟨y0, y1, y2, y3, y4⟩ := k0.cells
  go_upto_region 16 with fail
  clear x0 x3 x4 x5 x6 x7
  have kd := k0.then ((Below.refl _ _).drew)
  refine wp_region_held_drew (S := fun w' => w'.cell? ⟨nb + 1, 0, none⟩ = some (.int .u64 ta) ∧ w'.cell? ⟨nb + 1, 1, none⟩ = some (.int .u64 tb) ∧ w'.cell? ⟨nb + 1, 2, none⟩ = some (.int .u64 tc) ∧ w'.cell? ⟨nb + 2, 0, none⟩ = some (.int .u64 a) ∧ w'.cell? ⟨nb + 2, 1, none⟩ = some (.int .u64 b)) (by kernel_rfl) ⟨y0, y1, y2, y3, y4⟩ (fun hHeld => ?_)
  obtain ⟨y0, y1, y2, y3, y4⟩ := kd.cells
  obtain ⟨⟨q0, q1, q2, q3, q4⟩, f0, f1, f2, f3, f4⟩ := kd.outs
  generalize W0.drew = wd at *
  refine take_d (v := ?_) 0 89 rfl rfl (by kernel_rfl) (by kernel_rfl) (by kernel_rfl) (fun _ _ _ h => h) (by kernel_rfl) ?_ (by assumption) ?_
  rotate_left
  · (intro w hSw; (try dsimp only at hSw); go_simp; first | done | with_reducible rfl)
  try simp only [Act.put, List.setIfInBounds_toArray, List.set_cons_zero, List.set_cons_succ]
  refine take_d (v := ?_) 1 90 rfl rfl (by kernel_rfl) (by kernel_rfl) (by kernel_rfl) (fun _ _ _ h => h) (by kernel_rfl) ?_ (by assumption) ?_
  rotate_left
  · (intro w hSw; (try dsimp only at hSw); go_simp; first | done | with_reducible rfl)
  try simp only [Act.put, List.setIfInBounds_toArray, List.set_cons_zero, List.set_cons_succ]
  refine wpAnyH_ready (rs := [2]) (by kernel_rfl) (by simp) ?_
  refine AllReadyH.cons rfl (fun K hK => ?_) AllReadyH.nil
  go_simp
  go_wp2_with fail
  refine hK.out _ _ (by refine ⟨?_, ?_, ?_, ?_, ?_⟩ <;> (repeat rw [far (by omega)]) <;> assumption) (fun hHeld => ?_)
  clear hK K
  try simp only [Act.put, List.setIfInBounds_toArray, List.set_cons_zero, List.set_cons_succ]
  refine wpAnyH_ready (rs := [3]) (by kernel_rfl) (by simp) ?_
  refine AllReadyH.cons rfl (fun K hK => ?_) AllReadyH.nil
  go_simp
  go_wp2_with fail
  refine hK.out _ _ (by refine ⟨?_, ?_, ?_, ?_, ?_⟩ <;> (repeat rw [far (by omega)]) <;> assumption) (fun hHeld => ?_)
  clear hK K
  try simp only [Act.put, List.setIfInBounds_toArray, List.set_cons_zero, List.set_cons_succ]
  refine wpAnyH_ready (rs := [4]) (by kernel_rfl) (by simp) ?_
  refine AllReadyH.cons rfl (fun K hK => ?_) AllReadyH.nil
  go_simp
  go_wp2_with fail
  refine hK.out _ _ (by refine ⟨?_, ?_, ?_, ?_, ?_⟩ <;> (repeat rw [far (by omega)]) <;> assumption) (fun hHeld => ?_)
  clear hK K
  try simp only [Act.put, List.setIfInBounds_toArray, List.set_cons_zero, List.set_cons_succ]
  refine wpAnyH_done (by kernel_rfl) ?_ _
  go_wp2_with fail
  exact bodyPost_ret (v := .tuple #[.agg #[.int .u64 ta, .int .u64 tb, .int .u64 tc], .agg #[.int .u64 a, .int .u64 b], .bool true]) (by simp [results, Try.results31, go_sem, *]) rfl ⟨rfl, by rw [← HNB.out]; (repeat' (first | exact kd.be | refine Below.setCell ?_ (by (try dsimp only); omega) _)); all_goals exact kd.be⟩
end
end Go.Proofs.Ytfbejjobejdenaa.PCodeSays
