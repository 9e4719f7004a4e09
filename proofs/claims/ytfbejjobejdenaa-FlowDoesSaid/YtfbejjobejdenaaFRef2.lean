/- The flows: the document's Do of a loop: the contracts. -/
import Derived.Test.YtfbejjobejdenaaFRef
set_option linter.unusedVariables false
set_option linter.unusedSimpArgs false
namespace Go.Proofs.Ytfbejjobejdenaa.PCodeSays
open Go.RowKit Go.Proofs.YtfbejjobejdenaaW.PrintWords Go.Proofs.YtfbejjobejdenaaW.PrintLast Go.Proofs.YtfbejjobejdenaaW.PrintMore
section
variable {w : World} {A : Option Addr} {c : Nat} {l : List S29}
theorem plus_any (a x bd : Int) (ha : 0 ≤ a ∧ a < 18446744073709551616) (hx : 0 ≤ x ∧ x < 18446744073709551616) : ∃ (z : Int) (f : Bool), (f = true ↔ plusOk a x bd) ∧ (f = true → z = x + a) ∧ ∀ W, Calls Try.prog 32 #[.int .u64 a, .int .u64 x, .int .u64 bd] W fun e w' => e = .returned (.tuple #[.int .u64 z, .bool f]) ∧ Below W.heap.size W w' := by
  by_cases h : plusOk a x bd
  · exact ⟨x + a, true, by simp [h], fun _ => rfl, fun W => plus_yes a x bd ha hx h W⟩
  · exact ⟨0, false, by simp [h], fun h => (by cases h), fun W => plus_no a x bd ha hx h W⟩
set_option maxRecDepth 100000 in
set_option maxHeartbeats 2000000 in
theorem rdo_loop_no (hr : Row w A l) (hc : l.length ≤ c) (ins outs pa pb pc bd : Int) (cv : Value) (st : Bool) (h1 : cv.oneCell' = true) (ta tb tc a b : Int) (hp : T3.ok ⟨pa, pb, pc⟩) (ht : T3.ok ⟨ta, tb, tc⟩) (hf : ¬ (T3.fits ⟨pa, pb, pc⟩ ⟨ta, tb, tc⟩ ∧ loopOk ⟨pa, pb, pc⟩ ⟨ta, tb, tc⟩ bd)) :
    Calls Try.prog 31 #[nodeV 5 ins outs A l.length c ⟨pa, pb, pc⟩ bd cv st, .agg #[.int .u64 ta, .int .u64 tb, .int .u64 tc], .agg #[.int .u64 a, .int .u64 b]] w fun e w' => e = .returned (.tuple #[.agg #[.int .u64 0, .int .u64 0, .int .u64 0], .agg #[.int .u64 0, .int .u64 0], .bool false]) ∧ Below w.heap.size w w' := by
  obtain ⟨n, hn⟩ : ∃ n, n = l.length := ⟨_, rfl⟩
  rw [← hn]
  clear hn hr hc h1
  rw [loop_plus _ _ _ hp ht] at hf
  obtain ⟨z1, g1, g1', g1'', m1⟩ := plus_any ta pa bd ht.1 hp.1
  obtain ⟨z2, g2, g2', g2'', m2⟩ := plus_any tb pb bd ht.2.1 hp.2.1
  obtain ⟨z3, g3, g3', g3'', m3⟩ := plus_any tc pc bd ht.2.2 hp.2.2
  dsimp only at hf
  rw [← g1', ← g2', ← g3'] at hf
  clear g1' g2' g3' g1'' g2'' g3'' hp ht
  simp only [nodeV]
  obtain ⟨nb, hnb⟩ : ∃ nb, nb = w.heap.size := ⟨_, rfl⟩
  go_enter Try.func31, Try.ntmps31
  go_upto_region 1 with fail
  have k0 := D5.start (w := w) (rc := #[.int .i64 5, .int .i64 ins, .int .i64 outs, .slice A n c, .int .u64 pa, .int .u64 pb, .int .u64 pc, .int .u64 bd, cv, .bool st]) (ty := 47) (ta := ta) (tb := tb) (tc := tc) (a := a) (b := b)
  generalize (((((w.alloc (.cells #[.int .i64 5, .int .i64 ins, .int .i64 outs, .slice A n c, .int .u64 pa, .int .u64 pb, .int .u64 pc, .int .u64 bd, cv, .bool st] 47)).alloc (.cells #[.int .u64 ta, .int .u64 tb, .int .u64 tc] 58)).alloc (.cells #[.int .u64 a, .int .u64 b] 25)).alloc (.cells #[.int .u64 0, .int .u64 0, .int .u64 0] 58)).alloc (.cells #[.int .u64 0, .int .u64 0] 25)) = W0 at *
  rw [← hnb] at k0 ⊢
  have HNB := Lib.hid hnb
  clear hnb
  have x0 := blk_cell k0.x0 0
  have x3 := blk_cell k0.x0 3
  have x4 := blk_cell k0.x0 4
  have x5 := blk_cell k0.x0 5
  have x6 := blk_cell k0.x0 6
  have x7 := blk_cell k0.x0 7
  simp at x0 x3 x4 x5 x6 x7
  obtain ⟨y0, y1, y2, y3, y4⟩ := k0.cells
  go_upto_region 11 with (go_at_call 32; refine (m1 _).mono ?_; rintro e w1 ⟨rfl, bb⟩)
  have k1 := k0.then bb
  clear x0 x3 x4 x5 x6 x7 y0 y1 y2 y3 y4 k0 m1 bb
  have x0 := blk_cell k1.x0 0
  have x3 := blk_cell k1.x0 3
  have x4 := blk_cell k1.x0 4
  have x5 := blk_cell k1.x0 5
  have x6 := blk_cell k1.x0 6
  have x7 := blk_cell k1.x0 7
  simp at x0 x3 x4 x5 x6 x7
  obtain ⟨y0, y1, y2, y3, y4⟩ := k1.cells
  go_upto_region 12 with (go_at_call 32; refine (m2 _).mono ?_; rintro e w2 ⟨rfl, bb⟩)
  have k2 := k1.then bb
  clear x0 x3 x4 x5 x6 x7 y0 y1 y2 y3 y4 k1 m2 bb
  have x0 := blk_cell k2.x0 0
  have x3 := blk_cell k2.x0 3
  have x4 := blk_cell k2.x0 4
  have x5 := blk_cell k2.x0 5
  have x6 := blk_cell k2.x0 6
  have x7 := blk_cell k2.x0 7
  simp at x0 x3 x4 x5 x6 x7
  obtain ⟨y0, y1, y2, y3, y4⟩ := k2.cells
  go_upto_region 13 with (go_at_call 32; refine (m3 _).mono ?_; rintro e w3 ⟨rfl, bb⟩)
  have k3 := k2.then bb
  clear x0 x3 x4 x5 x6 x7 y0 y1 y2 y3 y4 k2 m3 bb
  have x0 := blk_cell k3.x0 0
  have x3 := blk_cell k3.x0 3
  have x4 := blk_cell k3.x0 4
  have x5 := blk_cell k3.x0 5
  have x6 := blk_cell k3.x0 6
  have x7 := blk_cell k3.x0 7
  simp at x0 x3 x4 x5 x6 x7
  obtain ⟨y0, y1, y2, y3, y4⟩ := k3.cells
  obtain ⟨⟨q0, q1, q2, q3, q4⟩, f0, f1, f2, f3, f4⟩ := k3.outs
  cases g1
  case false =>
    go_wp2_with fail
    exact bodyPost_ret (v := .tuple #[.agg #[.int .u64 0, .int .u64 0, .int .u64 0], .agg #[.int .u64 0, .int .u64 0], .bool false]) (by simp [results, Try.results31, go_sem, *]) rfl ⟨rfl, by rw [← HNB.out]; (repeat' (first | exact k3.be | refine Below.setCell ?_ (by (try dsimp only); omega) _)); all_goals exact k3.be⟩
  cases g2
  case false =>
    go_wp2_with fail
    exact bodyPost_ret (v := .tuple #[.agg #[.int .u64 0, .int .u64 0, .int .u64 0], .agg #[.int .u64 0, .int .u64 0], .bool false]) (by simp [results, Try.results31, go_sem, *]) rfl ⟨rfl, by rw [← HNB.out]; (repeat' (first | exact k3.be | refine Below.setCell ?_ (by (try dsimp only); omega) _)); all_goals exact k3.be⟩
  cases g3
  case false =>
    go_wp2_with fail
    exact bodyPost_ret (v := .tuple #[.agg #[.int .u64 0, .int .u64 0, .int .u64 0], .agg #[.int .u64 0, .int .u64 0], .bool false]) (by simp [results, Try.results31, go_sem, *]) rfl ⟨rfl, by rw [← HNB.out]; (repeat' (first | exact k3.be | refine Below.setCell ?_ (by (try dsimp only); omega) _)); all_goals exact k3.be⟩
  exact absurd ⟨rfl, rfl, rfl⟩ hf
set_option maxRecDepth 100000 in
set_option maxHeartbeats 2000000 in
theorem rdo_loop_yes (hr : Row w A l) (hc : l.length ≤ c) (ins outs pa pb pc bd : Int) (cv : Value) (st : Bool) (h1 : cv.oneCell' = true) (ta tb tc a b : Int) (hp : T3.ok ⟨pa, pb, pc⟩) (ht : T3.ok ⟨ta, tb, tc⟩) (hf : T3.fits ⟨pa, pb, pc⟩ ⟨ta, tb, tc⟩ ∧ loopOk ⟨pa, pb, pc⟩ ⟨ta, tb, tc⟩ bd) :
    Calls Try.prog 31 #[nodeV 5 ins outs A l.length c ⟨pa, pb, pc⟩ bd cv st, .agg #[.int .u64 ta, .int .u64 tb, .int .u64 tc], .agg #[.int .u64 a, .int .u64 b]] w fun e w' => e = .returned (.tuple #[.agg #[.int .u64 (pa + ta), .int .u64 (pb + tb), .int .u64 (pc + tc)], .agg #[.int .u64 a, .int .u64 b], .bool true]) ∧ Below w.heap.size w w' := by
  obtain ⟨n, hn⟩ : ∃ n, n = l.length := ⟨_, rfl⟩
  rw [← hn]
  clear hn hr hc h1
  rw [loop_plus _ _ _ hp ht] at hf
  obtain ⟨z1, g1, g1', g1'', m1⟩ := plus_any ta pa bd ht.1 hp.1
  obtain ⟨z2, g2, g2', g2'', m2⟩ := plus_any tb pb bd ht.2.1 hp.2.1
  obtain ⟨z3, g3, g3', g3'', m3⟩ := plus_any tc pc bd ht.2.2 hp.2.2
  dsimp only at hf
  rw [← g1', ← g2', ← g3'] at hf
  obtain ⟨rfl, rfl, rfl⟩ := hf
  rw [← g1'' rfl, ← g2'' rfl, ← g3'' rfl]
  clear g1' g2' g3' g1'' g2'' g3'' hp ht
  simp only [nodeV]
  obtain ⟨nb, hnb⟩ : ∃ nb, nb = w.heap.size := ⟨_, rfl⟩
  go_enter Try.func31, Try.ntmps31
  go_upto_region 1 with fail
  have k0 := D5.start (w := w) (rc := #[.int .i64 5, .int .i64 ins, .int .i64 outs, .slice A n c, .int .u64 pa, .int .u64 pb, .int .u64 pc, .int .u64 bd, cv, .bool st]) (ty := 47) (ta := ta) (tb := tb) (tc := tc) (a := a) (b := b)
  generalize (((((w.alloc (.cells #[.int .i64 5, .int .i64 ins, .int .i64 outs, .slice A n c, .int .u64 pa, .int .u64 pb, .int .u64 pc, .int .u64 bd, cv, .bool st] 47)).alloc (.cells #[.int .u64 ta, .int .u64 tb, .int .u64 tc] 58)).alloc (.cells #[.int .u64 a, .int .u64 b] 25)).alloc (.cells #[.int .u64 0, .int .u64 0, .int .u64 0] 58)).alloc (.cells #[.int .u64 0, .int .u64 0] 25)) = W0 at *
  rw [← hnb] at k0 ⊢
  have HNB := Lib.hid hnb
  clear hnb
  have x0 := blk_cell k0.x0 0
  have x3 := blk_cell k0.x0 3
  have x4 := blk_cell k0.x0 4
  have x5 := blk_cell k0.x0 5
  have x6 := blk_cell k0.x0 6
  have x7 := blk_cell k0.x0 7
  simp at x0 x3 x4 x5 x6 x7
  obtain ⟨y0, y1, y2, y3, y4⟩ := k0.cells
  go_upto_region 11 with (go_at_call 32; refine (m1 _).mono ?_; rintro e w1 ⟨rfl, bb⟩)
  have k1 := k0.then bb
  clear x0 x3 x4 x5 x6 x7 y0 y1 y2 y3 y4 k0 m1 bb
  have x0 := blk_cell k1.x0 0
  have x3 := blk_cell k1.x0 3
  have x4 := blk_cell k1.x0 4
  have x5 := blk_cell k1.x0 5
  have x6 := blk_cell k1.x0 6
  have x7 := blk_cell k1.x0 7
  simp at x0 x3 x4 x5 x6 x7
  obtain ⟨y0, y1, y2, y3, y4⟩ := k1.cells
  go_upto_region 12 with (go_at_call 32; refine (m2 _).mono ?_; rintro e w2 ⟨rfl, bb⟩)
  have k2 := k1.then bb
  clear x0 x3 x4 x5 x6 x7 y0 y1 y2 y3 y4 k1 m2 bb
  have x0 := blk_cell k2.x0 0
  have x3 := blk_cell k2.x0 3
  have x4 := blk_cell k2.x0 4
  have x5 := blk_cell k2.x0 5
  have x6 := blk_cell k2.x0 6
  have x7 := blk_cell k2.x0 7
  simp at x0 x3 x4 x5 x6 x7
  obtain ⟨y0, y1, y2, y3, y4⟩ := k2.cells
  go_upto_region 13 with (go_at_call 32; refine (m3 _).mono ?_; rintro e w3 ⟨rfl, bb⟩)
  have k3 := k2.then bb
  clear x0 x3 x4 x5 x6 x7 y0 y1 y2 y3 y4 k2 m3 bb
  have x0 := blk_cell k3.x0 0
  have x3 := blk_cell k3.x0 3
  have x4 := blk_cell k3.x0 4
  have x5 := blk_cell k3.x0 5
  have x6 := blk_cell k3.x0 6
  have x7 := blk_cell k3.x0 7
  simp at x0 x3 x4 x5 x6 x7
  obtain ⟨y0, y1, y2, y3, y4⟩ := k3.cells
  go_upto_region 15 with fail
  clear x0 x3 x4 x5 x6 x7
  have kd := k3.then ((Below.refl _ _).drew)
  refine wp_region_held_drew (S := fun w' => w'.cell? ⟨nb + 1, 0, none⟩ = some (.int .u64 ta) ∧ w'.cell? ⟨nb + 1, 1, none⟩ = some (.int .u64 tb) ∧ w'.cell? ⟨nb + 1, 2, none⟩ = some (.int .u64 tc) ∧ w'.cell? ⟨nb + 2, 0, none⟩ = some (.int .u64 a) ∧ w'.cell? ⟨nb + 2, 1, none⟩ = some (.int .u64 b)) (by kernel_rfl) ⟨y0, y1, y2, y3, y4⟩ (fun hHeld => ?_)
  obtain ⟨y0, y1, y2, y3, y4⟩ := kd.cells
  obtain ⟨⟨q0, q1, q2, q3, q4⟩, f0, f1, f2, f3, f4⟩ := kd.outs
  generalize w3.drew = wd at *
  refine take_d (v := ?_) 0 84 rfl rfl (by kernel_rfl) (by kernel_rfl) (by kernel_rfl) (fun _ _ _ h => h) (by kernel_rfl) ?_ (by assumption) ?_
  rotate_left
  · (intro w hSw; (try dsimp only at hSw); go_simp; first | done | with_reducible rfl)
  try simp only [Act.put, List.setIfInBounds_toArray, List.set_cons_zero, List.set_cons_succ]
  refine take_d (v := ?_) 1 85 rfl rfl (by kernel_rfl) (by kernel_rfl) (by kernel_rfl) (fun _ _ _ h => h) (by kernel_rfl) ?_ (by assumption) ?_
  rotate_left
  · (intro w hSw; (try dsimp only at hSw); go_simp; first | done | with_reducible rfl)
  try simp only [Act.put, List.setIfInBounds_toArray, List.set_cons_zero, List.set_cons_succ]
  refine take_d (v := ?_) 2 86 rfl rfl (by kernel_rfl) (by kernel_rfl) (by kernel_rfl) (fun _ _ _ h => h) (by kernel_rfl) ?_ (by assumption) ?_
  rotate_left
  · (intro w hSw; (try dsimp only at hSw); go_simp; first | done | with_reducible rfl)
  try simp only [Act.put, List.setIfInBounds_toArray, List.set_cons_zero, List.set_cons_succ]
  refine take_d (v := ?_) 3 87 rfl rfl (by kernel_rfl) (by kernel_rfl) (by kernel_rfl) (fun _ _ _ h => h) (by kernel_rfl) ?_ (by assumption) ?_
  rotate_left
  · (intro w hSw; (try dsimp only at hSw); go_simp; first | done | with_reducible rfl)
  try simp only [Act.put, List.setIfInBounds_toArray, List.set_cons_zero, List.set_cons_succ]
  refine take_d (v := ?_) 4 88 rfl rfl (by kernel_rfl) (by kernel_rfl) (by kernel_rfl) (fun _ _ _ h => h) (by kernel_rfl) ?_ (by assumption) ?_
  rotate_left
  · (intro w hSw; (try dsimp only at hSw); go_simp; first | done | with_reducible rfl)
  try simp only [Act.put, List.setIfInBounds_toArray, List.set_cons_zero, List.set_cons_succ]
  refine wpAnyH_ready (rs := [5]) (by kernel_rfl) (by simp) ?_
  refine AllReadyH.cons rfl (fun K hK => ?_) AllReadyH.nil
  go_simp
  go_wp2_with fail
  refine hK.out _ _ (by refine ⟨?_, ?_, ?_, ?_, ?_⟩ <;> (repeat rw [far (by omega)]) <;> assumption) (fun hHeld => ?_)
  clear hK K
  try simp only [Act.put, List.setIfInBounds_toArray, List.set_cons_zero, List.set_cons_succ]
  refine wpAnyH_ready (rs := [6]) (by kernel_rfl) (by simp) ?_
  refine AllReadyH.cons rfl (fun K hK => ?_) AllReadyH.nil
  go_simp
  go_wp2_with fail
  refine hK.out _ _ (by refine ⟨?_, ?_, ?_, ?_, ?_⟩ <;> (repeat rw [far (by omega)]) <;> assumption) (fun hHeld => ?_)
  clear hK K
  try simp only [Act.put, List.setIfInBounds_toArray, List.set_cons_zero, List.set_cons_succ]
  refine wpAnyH_ready (rs := [7]) (by kernel_rfl) (by simp) ?_
  refine AllReadyH.cons rfl (fun K hK => ?_) AllReadyH.nil
  go_simp
  go_wp2_with fail
  refine hK.out _ _ (by refine ⟨?_, ?_, ?_, ?_, ?_⟩ <;> (repeat rw [far (by omega)]) <;> assumption) (fun hHeld => ?_)
  clear hK K
  try simp only [Act.put, List.setIfInBounds_toArray, List.set_cons_zero, List.set_cons_succ]
  refine wpAnyH_done (by kernel_rfl) ?_ _
  go_wp2_with fail
  exact bodyPost_ret (v := .tuple #[.agg #[.int .u64 z1, .int .u64 z2, .int .u64 z3], .agg #[.int .u64 a, .int .u64 b], .bool true]) (by simp [results, Try.results31, go_sem, *]) rfl ⟨rfl, by rw [← HNB.out]; (repeat' (first | exact kd.be | refine Below.setCell ?_ (by (try dsimp only); omega) _)); all_goals exact kd.be⟩
end
end Go.Proofs.Ytfbejjobejdenaa.PCodeSays
