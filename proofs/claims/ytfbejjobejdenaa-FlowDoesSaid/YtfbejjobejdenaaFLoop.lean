/- The flows: what Do answers, of a loop: the contracts. -/
import Derived.Test.YtfbejjobejdenaaFDo
import Derived.Deep.RegionHeld3
set_option linter.unusedVariables false
set_option linter.unusedSimpArgs false
namespace Go.Proofs.Ytfbejjobejdenaa.PCodeSays
open Go.RowKit Go.Proofs.YtfbejjobejdenaaW.PrintWords Go.Proofs.YtfbejjobejdenaaW.PrintLast Go.Proofs.YtfbejjobejdenaaW.PrintMore
/-- What a loop lets through. -/
def loopOk (p t : T3) (bd : Int) : Prop := (0 < p.a → p.a + t.a ≤ bd) ∧ (0 < p.b → p.b + t.b ≤ bd) ∧ (0 < p.c → p.c + t.c ≤ bd)
theorem loop_cases {pa ua pb ub pc uc bd : Int} (h : ¬ ((0 < pa → ua ≤ bd) ∧ (0 < pb → ub ≤ bd) ∧ (0 < pc → uc ≤ bd))) :
    (0 < pa ∧ bd < ua) ∨ ((pa ≤ 0 ∨ (0 < pa ∧ ua ≤ bd)) ∧ ((0 < pb ∧ bd < ub) ∨ ((pb ≤ 0 ∨ (0 < pb ∧ ub ≤ bd)) ∧ 0 < pc ∧ bd < uc))) := by omega
theorem loop_cases1 {pa ua pb ub pc uc bd : Int} (h : ((0 < pa → ua ≤ bd) ∧ (0 < pb → ub ≤ bd) ∧ (0 < pc → uc ≤ bd))) :
    (pa ≤ 0 ∨ (0 < pa ∧ ua ≤ bd)) ∧ (pb ≤ 0 ∨ (0 < pb ∧ ub ≤ bd)) ∧ (pc ≤ 0 ∨ (0 < pc ∧ uc ≤ bd)) := by omega
set_option maxRecDepth 100000 in
set_option maxHeartbeats 2000000 in
theorem do_loop_over (w : World) (pa pb pc bd ta tb tc a b : Int) (hp : T3.ok ⟨pa, pb, pc⟩) (ht : T3.ok ⟨ta, tb, tc⟩) (hf : ¬ T3.fits ⟨pa, pb, pc⟩ ⟨ta, tb, tc⟩) :
    Calls Try.prog 53 #[.agg #[.int .u64 pa, .int .u64 pb, .int .u64 pc, .int .u64 bd], .agg #[.int .u64 ta, .int .u64 tb, .int .u64 tc], .agg #[.int .u64 a, .int .u64 b]] w fun e w' =>
      e = .returned (.tuple #[.agg #[.int .u64 0, .int .u64 0, .int .u64 0], .agg #[.int .u64 0, .int .u64 0], .bool false]) ∧ Below w.heap.size w w' := by
  have hon := fun W => on_no hp ht hf W
  simp only [T3.v] at hon
  clear hp ht hf
  obtain ⟨nb, hnb⟩ : ∃ nb, nb = w.heap.size := ⟨_, rfl⟩
  go_enter Try.func53, Try.ntmps53
  go_upto_region 1 with fail
  have k0 := D5.start (w := w) (rc := #[.int .u64 pa, .int .u64 pb, .int .u64 pc, .int .u64 bd]) (ty := 74) (ta := ta) (tb := tb) (tc := tc) (a := a) (b := b)
  generalize (((((w.alloc (.cells #[.int .u64 pa, .int .u64 pb, .int .u64 pc, .int .u64 bd] 74)).alloc (.cells #[.int .u64 ta, .int .u64 tb, .int .u64 tc] 58)).alloc (.cells #[.int .u64 a, .int .u64 b] 25)).alloc (.cells #[.int .u64 0, .int .u64 0, .int .u64 0] 58)).alloc (.cells #[.int .u64 0, .int .u64 0] 25)) = W0 at *
  rw [← hnb] at k0 ⊢
  have HNB := Lib.hid hnb
  clear hnb
  have x0 := blk_cell k0.x0 0
  have x1 := blk_cell k0.x0 1
  have x2 := blk_cell k0.x0 2
  simp at x0 x1 x2
  obtain ⟨y0, y1, y2, y3, y4⟩ := k0.cells
  go_cut [9, 10] (fun s9 s10 wx => s10 = .bool false ∧ ∃ nu, s9 = .pointer (some ⟨nu, 0, none⟩) ∧ nb + 5 ≤ nu ∧ D5 w wx nb #[.int .u64 pa, .int .u64 pb, .int .u64 pc, .int .u64 bd] 74 ta tb tc a b ∧ wx.heap[nu]? = some (.cells #[.int .u64 0, .int .u64 0, .int .u64 0] 58 (0, 0)))
  case first =>
    go_wp2_with (go_at_call 54; refine (hon _).mono ?_; rintro e w1 ⟨rfl, bb1⟩)
    have k1 := k0.then bb1
    go_meet
    exact ⟨rfl, w1.heap.size, rfl, k1.lt, k1.then ((Below.refl _ _).alloc (Nat.le_refl _) _), heap_alloc_new _ _⟩
  case rest =>
  obtain ⟨rfl, nu, rfl, hnu, k2, xu⟩ := hcut
  clear x0 x1 x2 y0 y1 y2 y3 y4 k0 hon
  have x0 := blk_cell k2.x0 0
  have x1 := blk_cell k2.x0 1
  have x2 := blk_cell k2.x0 2
  have x3 := blk_cell k2.x0 3
  have u0 := blk_cell xu 0
  have u1 := blk_cell xu 1
  have u2 := blk_cell xu 2
  simp at x0 x1 x2 x3 u0 u1 u2
  obtain ⟨y0, y1, y2, y3, y4⟩ := k2.cells
  obtain ⟨⟨q0, q1, q2, q3, q4⟩, f0, f1, f2, f3, f4⟩ := k2.outs
  all_goals go_wp2_with fail
  all_goals  exact bodyPost_ret (v := .tuple #[.agg #[.int .u64 0, .int .u64 0, .int .u64 0], .agg #[.int .u64 0, .int .u64 0], .bool false]) (by simp [results, Try.results53, go_sem, *]) rfl ⟨rfl, by rw [← HNB.out]; (repeat' (first | exact k2.be | refine Below.setCell ?_ (by (try dsimp only); omega) _)); all_goals exact k2.be⟩
set_option maxRecDepth 100000 in
set_option maxHeartbeats 2000000 in
theorem do_loop_no (w : World) (pa pb pc bd ta tb tc a b : Int) (hp : T3.ok ⟨pa, pb, pc⟩) (ht : T3.ok ⟨ta, tb, tc⟩) (hf : T3.fits ⟨pa, pb, pc⟩ ⟨ta, tb, tc⟩) (hl : ¬ loopOk ⟨pa, pb, pc⟩ ⟨ta, tb, tc⟩ bd) :
    Calls Try.prog 53 #[.agg #[.int .u64 pa, .int .u64 pb, .int .u64 pc, .int .u64 bd], .agg #[.int .u64 ta, .int .u64 tb, .int .u64 tc], .agg #[.int .u64 a, .int .u64 b]] w fun e w' =>
      e = .returned (.tuple #[.agg #[.int .u64 0, .int .u64 0, .int .u64 0], .agg #[.int .u64 0, .int .u64 0], .bool false]) ∧ Below w.heap.size w w' := by
  have hon := fun W => on_yes hp ht hf W
  simp only [T3.v, T3.add] at hon
  unfold loopOk at hl
  dsimp only at hl
  obtain ⟨ua, hua⟩ : ∃ ua, ua = pa + ta := ⟨_, rfl⟩
  obtain ⟨ub, hub⟩ : ∃ ub, ub = pb + tb := ⟨_, rfl⟩
  obtain ⟨uc, huc⟩ : ∃ uc, uc = pc + tc := ⟨_, rfl⟩
  rw [← hua, ← hub, ← huc] at hl hon
  clear hp ht hf hua hub huc
  obtain ⟨nb, hnb⟩ : ∃ nb, nb = w.heap.size := ⟨_, rfl⟩
  go_enter Try.func53, Try.ntmps53
  go_upto_region 1 with fail
  have k0 := D5.start (w := w) (rc := #[.int .u64 pa, .int .u64 pb, .int .u64 pc, .int .u64 bd]) (ty := 74) (ta := ta) (tb := tb) (tc := tc) (a := a) (b := b)
  generalize (((((w.alloc (.cells #[.int .u64 pa, .int .u64 pb, .int .u64 pc, .int .u64 bd] 74)).alloc (.cells #[.int .u64 ta, .int .u64 tb, .int .u64 tc] 58)).alloc (.cells #[.int .u64 a, .int .u64 b] 25)).alloc (.cells #[.int .u64 0, .int .u64 0, .int .u64 0] 58)).alloc (.cells #[.int .u64 0, .int .u64 0] 25)) = W0 at *
  rw [← hnb] at k0 ⊢
  have HNB := Lib.hid hnb
  clear hnb
  have x0 := blk_cell k0.x0 0
  have x1 := blk_cell k0.x0 1
  have x2 := blk_cell k0.x0 2
  simp at x0 x1 x2
  obtain ⟨y0, y1, y2, y3, y4⟩ := k0.cells
  go_cut [9, 10] (fun s9 s10 wx => s10 = .bool true ∧ ∃ nu, s9 = .pointer (some ⟨nu, 0, none⟩) ∧ nb + 5 ≤ nu ∧ D5 w wx nb #[.int .u64 pa, .int .u64 pb, .int .u64 pc, .int .u64 bd] 74 ta tb tc a b ∧ wx.heap[nu]? = some (.cells #[.int .u64 ua, .int .u64 ub, .int .u64 uc] 58 (0, 0)))
  case first =>
    go_wp2_with (go_at_call 54; refine (hon _).mono ?_; rintro e w1 ⟨rfl, bb1⟩)
    have k1 := k0.then bb1
    go_meet
    exact ⟨rfl, w1.heap.size, rfl, k1.lt, k1.then ((Below.refl _ _).alloc (Nat.le_refl _) _), heap_alloc_new _ _⟩
  case rest =>
  obtain ⟨rfl, nu, rfl, hnu, k2, xu⟩ := hcut
  clear x0 x1 x2 y0 y1 y2 y3 y4 k0 hon
  have x0 := blk_cell k2.x0 0
  have x1 := blk_cell k2.x0 1
  have x2 := blk_cell k2.x0 2
  have x3 := blk_cell k2.x0 3
  have u0 := blk_cell xu 0
  have u1 := blk_cell xu 1
  have u2 := blk_cell xu 2
  simp at x0 x1 x2 x3 u0 u1 u2
  obtain ⟨y0, y1, y2, y3, y4⟩ := k2.cells
  obtain ⟨⟨q0, q1, q2, q3, q4⟩, f0, f1, f2, f3, f4⟩ := k2.outs
  rcases loop_cases hl with ⟨e1, e2⟩ | ⟨⟨e1⟩ | ⟨e1, e2⟩, ⟨e3, e4⟩ | ⟨⟨e3⟩ | ⟨e3, e4⟩, e5, e6⟩⟩
  all_goals clear hl
  all_goals go_wp2_with fail
  all_goals  exact bodyPost_ret (v := .tuple #[.agg #[.int .u64 0, .int .u64 0, .int .u64 0], .agg #[.int .u64 0, .int .u64 0], .bool false]) (by simp [results, Try.results53, go_sem, *]) rfl ⟨rfl, by rw [← HNB.out]; (repeat' (first | exact k2.be | refine Below.setCell ?_ (by (try dsimp only); omega) _)); all_goals exact k2.be⟩
set_option maxRecDepth 100000 in
set_option maxHeartbeats 2000000 in
theorem do_loop_yes (w : World) (pa pb pc bd ta tb tc a b : Int) (hp : T3.ok ⟨pa, pb, pc⟩) (ht : T3.ok ⟨ta, tb, tc⟩) (hf : T3.fits ⟨pa, pb, pc⟩ ⟨ta, tb, tc⟩) (hl : loopOk ⟨pa, pb, pc⟩ ⟨ta, tb, tc⟩ bd) :
    Calls Try.prog 53 #[.agg #[.int .u64 pa, .int .u64 pb, .int .u64 pc, .int .u64 bd], .agg #[.int .u64 ta, .int .u64 tb, .int .u64 tc], .agg #[.int .u64 a, .int .u64 b]] w fun e w' =>
      e = .returned (.tuple #[.agg #[.int .u64 (pa + ta), .int .u64 (pb + tb), .int .u64 (pc + tc)], .agg #[.int .u64 a, .int .u64 b], .bool true]) ∧ Below w.heap.size w w' := by
  have hon := fun W => on_yes hp ht hf W
  simp only [T3.v, T3.add] at hon
  unfold loopOk at hl
  dsimp only at hl
  obtain ⟨ua, hua⟩ : ∃ ua, ua = pa + ta := ⟨_, rfl⟩
  obtain ⟨ub, hub⟩ : ∃ ub, ub = pb + tb := ⟨_, rfl⟩
  obtain ⟨uc, huc⟩ : ∃ uc, uc = pc + tc := ⟨_, rfl⟩
  rw [← hua, ← hub, ← huc] at hl hon ⊢
  clear hp ht hf hua hub huc
  obtain ⟨nb, hnb⟩ : ∃ nb, nb = w.heap.size := ⟨_, rfl⟩
  go_enter Try.func53, Try.ntmps53
  go_upto_region 1 with fail
  have k0 := D5.start (w := w) (rc := #[.int .u64 pa, .int .u64 pb, .int .u64 pc, .int .u64 bd]) (ty := 74) (ta := ta) (tb := tb) (tc := tc) (a := a) (b := b)
  generalize (((((w.alloc (.cells #[.int .u64 pa, .int .u64 pb, .int .u64 pc, .int .u64 bd] 74)).alloc (.cells #[.int .u64 ta, .int .u64 tb, .int .u64 tc] 58)).alloc (.cells #[.int .u64 a, .int .u64 b] 25)).alloc (.cells #[.int .u64 0, .int .u64 0, .int .u64 0] 58)).alloc (.cells #[.int .u64 0, .int .u64 0] 25)) = W0 at *
  rw [← hnb] at k0 ⊢
  have HNB := Lib.hid hnb
  clear hnb
  have x0 := blk_cell k0.x0 0
  have x1 := blk_cell k0.x0 1
  have x2 := blk_cell k0.x0 2
  simp at x0 x1 x2
  obtain ⟨y0, y1, y2, y3, y4⟩ := k0.cells
  go_cut [9, 10] (fun s9 s10 wx => s10 = .bool true ∧ ∃ nu, s9 = .pointer (some ⟨nu, 0, none⟩) ∧ nb + 5 ≤ nu ∧ D5 w wx nb #[.int .u64 pa, .int .u64 pb, .int .u64 pc, .int .u64 bd] 74 ta tb tc a b ∧ wx.heap[nu]? = some (.cells #[.int .u64 ua, .int .u64 ub, .int .u64 uc] 58 (0, 0)))
  case first =>
    go_wp2_with (go_at_call 54; refine (hon _).mono ?_; rintro e w1 ⟨rfl, bb1⟩)
    have k1 := k0.then bb1
    go_meet
    exact ⟨rfl, w1.heap.size, rfl, k1.lt, k1.then ((Below.refl _ _).alloc (Nat.le_refl _) _), heap_alloc_new _ _⟩
  case rest =>
  obtain ⟨rfl, nu, rfl, hnu, k2, xu⟩ := hcut
  clear x0 x1 x2 y0 y1 y2 y3 y4 k0 hon
  have x0 := blk_cell k2.x0 0
  have x1 := blk_cell k2.x0 1
  have x2 := blk_cell k2.x0 2
  have x3 := blk_cell k2.x0 3
  have u0 := blk_cell xu 0
  have u1 := blk_cell xu 1
  have u2 := blk_cell xu 2
  simp at x0 x1 x2 x3 u0 u1 u2
  obtain ⟨y0, y1, y2, y3, y4⟩ := k2.cells
  obtain ⟨W2, hW2⟩ : ∃ W, W = wc := ⟨_, rfl⟩
  subst hW2
  go_upto_region 2 with fail
  go_cut [58] (fun s wx => s = .bool false ∧ wx = W2)
  case first =>
    obtain ⟨e1, e2, e3⟩ := loop_cases1 hl
    rcases e1 with e1 | ⟨e1, e1'⟩ <;> rcases e2 with e2 | ⟨e2, e2'⟩ <;> rcases e3 with e3 | ⟨e3, e3'⟩
    all_goals clear hl
    all_goals go_wp2_with fail
    all_goals go_meet
    all_goals exact ⟨by simp <;> omega, rfl⟩
  case rest =>
  obtain ⟨rfl, rfl⟩ := hcut
  go_upto_region 4 with fail
  have kd := k2.then ((Below.refl _ _).drew)
  have xd : wc.drew.heap[nu]? = some (.cells #[.int .u64 ua, .int .u64 ub, .int .u64 uc] 58 (0, 0)) := xu
  clear hl x0 x1 x2 x3
  refine wp_region_held_drew (S := fun w' => w'.cell? ⟨nu, 0, none⟩ = some (.int .u64 ua) ∧ w'.cell? ⟨nu, 1, none⟩ = some (.int .u64 ub) ∧ w'.cell? ⟨nu, 2, none⟩ = some (.int .u64 uc) ∧ w'.cell? ⟨nb + 2, 0, none⟩ = some (.int .u64 a) ∧ w'.cell? ⟨nb + 2, 1, none⟩ = some (.int .u64 b)) (by kernel_rfl) ⟨u0, u1, u2, y3, y4⟩ (fun hHeld => ?_)
  clear u0 u1 u2 y0 y1 y2 y3 y4 xu
  have u0 : wc.drew.cell? ⟨nu, 0, none⟩ = some (.int .u64 ua) := blk_cell xd 0
  have u1 : wc.drew.cell? ⟨nu, 1, none⟩ = some (.int .u64 ub) := blk_cell xd 1
  have u2 : wc.drew.cell? ⟨nu, 2, none⟩ = some (.int .u64 uc) := blk_cell xd 2
  obtain ⟨y0, y1, y2, y3, y4⟩ := kd.cells
  obtain ⟨⟨q0, q1, q2, q3, q4⟩, f0, f1, f2, f3, f4⟩ := kd.outs
  generalize wc.drew = wd at *
  refine take_d (v := ?_) 0 61 rfl rfl (by kernel_rfl) (by kernel_rfl) (by kernel_rfl) (fun _ _ _ h => h) (by kernel_rfl) ?_ (by assumption) ?_
  rotate_left
  · (intro w hSw; (try dsimp only at hSw); go_simp; first | done | with_reducible rfl)
  try simp only [Act.put, List.setIfInBounds_toArray, List.set_cons_zero, List.set_cons_succ]
  refine take_d (v := ?_) 1 62 rfl rfl (by kernel_rfl) (by kernel_rfl) (by kernel_rfl) (fun _ _ _ h => h) (by kernel_rfl) ?_ (by assumption) ?_
  rotate_left
  · (intro w hSw; (try dsimp only at hSw); go_simp; first | done | with_reducible rfl)
  try simp only [Act.put, List.setIfInBounds_toArray, List.set_cons_zero, List.set_cons_succ]
  refine wpAnyH_ready (rs := [2]) (by kernel_rfl) (by simp) ?_
  refine AllReadyH.cons rfl (fun K hK => ?_) AllReadyH.nil
  go_simp
  go_wp2_with fail
  refine hK.out _ _ (by refine ⟨?_, ?_, ?_, ?_, ?_⟩ <;> (repeat rw [far (by omega)]) <;> assumption) (fun hHeld => ?_)
  clear hK K
  try simp only [Act.put, List.setIfInBounds_toArray, List.set_cons_zero, List.set_cons_succ]
  refine wpAnyH_ready (rs := [3]) (by kernel_rfl) (by simp) ?_
  refine AllReadyH.cons rfl (fun K hK => ?_) AllReadyH.nil
  go_simp
  go_wp2_with fail
  refine hK.out _ _ (by refine ⟨?_, ?_, ?_, ?_, ?_⟩ <;> (repeat rw [far (by omega)]) <;> assumption) (fun hHeld => ?_)
  clear hK K
  try simp only [Act.put, List.setIfInBounds_toArray, List.set_cons_zero, List.set_cons_succ]
  refine wpAnyH_ready (rs := [4]) (by kernel_rfl) (by simp) ?_
  refine AllReadyH.cons rfl (fun K hK => ?_) AllReadyH.nil
  go_simp
  go_wp2_with fail
  refine hK.out _ _ (by refine ⟨?_, ?_, ?_, ?_, ?_⟩ <;> (repeat rw [far (by omega)]) <;> assumption) (fun hHeld => ?_)
  clear hK K
  try simp only [Act.put, List.setIfInBounds_toArray, List.set_cons_zero, List.set_cons_succ]
  refine wpAnyH_done (by kernel_rfl) ?_ _
  go_wp2_with fail
  exact bodyPost_ret (v := .tuple #[.agg #[.int .u64 ua, .int .u64 ub, .int .u64 uc], .agg #[.int .u64 a, .int .u64 b], .bool true]) (by simp [results, Try.results53, go_sem, *]) rfl ⟨rfl, by rw [← HNB.out]; (repeat' (first | exact kd.be | refine Below.setCell ?_ (by (try dsimp only); omega) _)); all_goals exact kd.be⟩
end Go.Proofs.Ytfbejjobejdenaa.PCodeSays
