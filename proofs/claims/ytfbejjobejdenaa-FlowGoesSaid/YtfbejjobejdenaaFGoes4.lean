/- The flows: FlowGoes, loops. -/
import Derived.Test.YtfbejjobejdenaaFGoes
set_option linter.unusedVariables false
set_option linter.unusedSimpArgs false
namespace Go.Proofs.Ytfbejjobejdenaa.PCodeSays
open Go.RowKit Go.Proofs.YtfbejjobejdenaaW.PrintWords Go.Proofs.YtfbejjobejdenaaW.PrintLast Go.Proofs.YtfbejjobejdenaaW.PrintMore
set_option maxRecDepth 100000 in
set_option maxHeartbeats 4000000 in
theorem goes_no {w : World} {A : Option Addr} {c : Nat} {l : List S29} (hr : Row w A l) (hc : l.length ≤ c) (ins outs pa pb pc bd : Int) (cv : Value) (st : Bool) (h1 : cv.oneCell' = true) (ta tb tc a b : Int) (hp : T3.ok ⟨pa, pb, pc⟩) (ht : T3.ok ⟨ta, tb, tc⟩) (hf : T3.fits ⟨pa, pb, pc⟩ ⟨ta, tb, tc⟩) (hl : ¬ loopOk ⟨pa, pb, pc⟩ ⟨ta, tb, tc⟩ bd) :
    Calls Try.prog 7 #[nodeV 5 ins outs A l.length c ⟨pa, pb, pc⟩ bd cv st, .agg #[.int .u64 ta, .int .u64 tb, .int .u64 tc], .agg #[.int .u64 a, .int .u64 b]] w fun e w' => e = .returned (.bool true) ∧ Below w.heap.size w w' := by
  have hnew := fun W hb => new_loop ins outs ⟨pa, pb, pc⟩ bd cv st hr hc h1 W hb
  have hne : pa = 0 → pb = 0 → ¬ pc = 0 := by
    rintro rfl rfl rfl
    exact hl (by simp [loopOk])
  have hdo := fun W => do_loop_no W pa pb pc bd ta tb tc a b hp ht hf hl
  clear hp ht hf hl
  obtain ⟨n, hn⟩ : ∃ n, n = l.length := ⟨_, rfl⟩
  rw [← hn] at hnew ⊢
  have HN := Lib.hid hn
  obtain ⟨nb, hnb⟩ : ∃ nb, nb = w.heap.size := ⟨_, rfl⟩
  clear hr hc hn h1
  simp only [nodeV] at hnew ⊢
  go_enter Try.func7, Try.ntmps7
  go_upto_region 1 with fail
  have k0 := D3.start (w := w) (rc := (ndc 5 ins outs A n c pa pb pc bd cv st)) (ta := ta) (tb := tb) (tc := tc) (a := a) (b := b)
  simp only [ndc] at k0
  generalize (((w.alloc (.cells #[.int .i64 5, .int .i64 ins, .int .i64 outs, .slice A n c, .int .u64 pa, .int .u64 pb, .int .u64 pc, .int .u64 bd, cv, .bool st] 47)).alloc (.cells #[.int .u64 ta, .int .u64 tb, .int .u64 tc] 58)).alloc (.cells #[.int .u64 a, .int .u64 b] 25)) = W0 at *
  rw [← hnb] at k0 hnew ⊢
  have HNB := Lib.hid hnb
  clear hnb
  go_upto_region 3 with (go_at_call 19; refine (taken_c _).mono ?_; rintro e w1 ⟨rfl, b1⟩)
  have k1 := k0.then b1
  clear k0 b1
  have ⟨z0, z1, z2, z3, z4, z5, z6, z7, z8, z9⟩ := D3.node k1
  go_upto_region 4 with (go_at_call 21; refine (hnew _ k1.be).mono ?_; rintro e w2 ⟨rfl, b2⟩)
  have k2 := k1.then b2
  clear z0 z1 z2 z3 z4 z5 z6 z7 z8 z9 k1 b2
  have ⟨z0, z1, z2, z3, z4, z5, z6, z7, z8, z9⟩ := D3.node k2
  go_upto_region 5 with (go_at_call 21; refine (hnew _ k2.be).mono ?_; rintro e w3 ⟨rfl, b3⟩)
  have k3 := k2.then b3
  skip
  clear z0 z1 z2 z3 z4 z5 z6 z7 z8 z9 k2 b3 hnew
  go_quiet (fail)
  have hme := fun (v : Value) (W : World) => meth74 v W
  have kd := k3.then (below_drewN (Below.refl _ _) nq)
  clear k3 
  generalize w3.drewN nq = wd at *
  go_upto_region 9 with fail
  obtain ⟨y0, y1, y2, y3, y4⟩ := kd.cells
  go_cut [11, 12, 13] (fun s11 s12 s13 wx => ∃ nu, D3 w wx nb (ndc 5 ins outs A n c pa pb pc bd cv st) ta tb tc a b ∧ nb + 3 ≤ nu ∧ s11 = .pointer (some ⟨nu, 0, none⟩) ∧ s12 = .pointer (some ⟨nu + 1, 0, none⟩) ∧ s13 = .bool false ∧ wx.heap[nu]? = some (.cells #[.int .u64 0, .int .u64 0, .int .u64 0] 58 (0, 0)) ∧ wx.heap[nu + 1]? = some (.cells #[.int .u64 0, .int .u64 0] 25 (0, 0)))
  case first =>
    go_wp2_with (go_at_call 53; refine (hdo _).mono ?_; rintro e w4 ⟨rfl, b4⟩)
    have k4 := kd.then b4
    have ba : Below w4.heap.size w4 ((w4.alloc (.cells #[.int .u64 0, .int .u64 0, .int .u64 0] 58)).alloc (.cells #[.int .u64 0, .int .u64 0] 25)) := ((Below.refl _ _).alloc (Nat.le_refl _) _).alloc (by simp) _
    go_meet
    exact ⟨w4.heap.size, k4.then ba, k4.lt, rfl, rfl, rfl, blk_alloc (alloc_at rfl) _, alloc_at (by simp)⟩
  case rest =>
  obtain ⟨nu, k5, hnu, rfl, rfl, rfl, xu, xs⟩ := hcut
  clear kd y0 y1 y2 y3 y4 
  obtain ⟨W5, hW5⟩ : ∃ W, W = wc := ⟨_, rfl⟩
  subst hW5
  go_upto_region 10 with fail
  obtain ⟨y0, y1, y2, y3, y4⟩ := k5.cells
  go_cut [14, 15, 16] (fun s14 s15 s16 wx => ∃ nv, D3 w wx nb (ndc 5 ins outs A n c pa pb pc bd cv st) ta tb tc a b ∧ nb + 3 ≤ nv ∧ s14 = .pointer (some ⟨nv, 0, none⟩) ∧ s15 = .pointer (some ⟨nv + 1, 0, none⟩) ∧ s16 = .bool false ∧ wx.heap[nv]? = some (.cells #[.int .u64 0, .int .u64 0, .int .u64 0] 58 (0, 0)) ∧ wx.heap[nv + 1]? = some (.cells #[.int .u64 0, .int .u64 0] 25 (0, 0)) ∧ wx.heap[nu]? = some (.cells #[.int .u64 0, .int .u64 0, .int .u64 0] 58 (0, 0)) ∧ wx.heap[nu + 1]? = some (.cells #[.int .u64 0, .int .u64 0] 25 (0, 0)))
  case first =>
    go_wp2_with (go_at_call 53; refine (hdo _).mono ?_; rintro e w6 ⟨rfl, b6⟩)
    have k6 := k5.then b6
    have ba : Below w6.heap.size w6 ((w6.alloc (.cells #[.int .u64 0, .int .u64 0, .int .u64 0] 58)).alloc (.cells #[.int .u64 0, .int .u64 0] 25)) := ((Below.refl _ _).alloc (Nat.le_refl _) _).alloc (by simp) _
    go_meet
    exact ⟨w6.heap.size, k6.then ba, k6.lt, rfl, rfl, rfl, blk_alloc (alloc_at rfl) _, alloc_at (by simp), blk_below (blk_below xu b6) ba, blk_below (blk_below xs b6) ba⟩
  case rest =>
  obtain ⟨nv, k7, hnv, rfl, rfl, rfl, xv, xq, xu2, xs2⟩ := hcut
  clear k5 y0 y1 y2 y3 y4 xu xs hdo 
  obtain ⟨W7, hW7⟩ : ∃ W, W = wc := ⟨_, rfl⟩
  subst hW7
  obtain ⟨y0, y1, y2, y3, y4⟩ := k7.cells
  have ⟨z0, z1, z2, z3, z4, z5, z6, z7, z8, z9⟩ := D3.node k7
  have u0 := blk_cell xu2 0
  have u1 := blk_cell xu2 1
  have u2 := blk_cell xu2 2
  have s0 := blk_cell xs2 0
  have s1 := blk_cell xs2 1
  have v0 := blk_cell xv 0
  have v1 := blk_cell xv 1
  have v2 := blk_cell xv 2
  have q0 := blk_cell xq 0
  have q1 := blk_cell xq 1
  simp at u0 u1 u2 s0 s1 v0 v1 v2 q0 q1
  have HK := Lib.hid k7.be
  clear k7 xu2 xs2 xv xq z1 z2 z3 z8 z9
  by_cases hpa : pa = 0
  · subst hpa
    by_cases hpb : pb = 0
    · subst hpb
      have hpc := hne rfl rfl
      go_wp2_with fail
      go_ret
      exact ⟨rfl, by rw [← HNB.out]; exact HK.out⟩
    · go_wp2_with fail
      go_ret
      exact ⟨rfl, by rw [← HNB.out]; exact HK.out⟩
  · go_wp2_with fail
    go_ret
    exact ⟨rfl, by rw [← HNB.out]; exact HK.out⟩
set_option maxRecDepth 100000 in
set_option maxHeartbeats 4000000 in
theorem goes_yes {w : World} {A : Option Addr} {c : Nat} {l : List S29} (hr : Row w A l) (hc : l.length ≤ c) (ins outs pa pb pc bd : Int) (cv : Value) (st : Bool) (h1 : cv.oneCell' = true) (ta tb tc a b : Int) (hp : T3.ok ⟨pa, pb, pc⟩) (ht : T3.ok ⟨ta, tb, tc⟩) (hf : T3.fits ⟨pa, pb, pc⟩ ⟨ta, tb, tc⟩) (hl : loopOk ⟨pa, pb, pc⟩ ⟨ta, tb, tc⟩ bd) :
    Calls Try.prog 7 #[nodeV 5 ins outs A l.length c ⟨pa, pb, pc⟩ bd cv st, .agg #[.int .u64 ta, .int .u64 tb, .int .u64 tc], .agg #[.int .u64 a, .int .u64 b]] w fun e w' => e = .returned (.bool true) ∧ Below w.heap.size w w' := by
  have hnew := fun W hb => new_loop ins outs ⟨pa, pb, pc⟩ bd cv st hr hc h1 W hb
  obtain ⟨f1, f2, f3⟩ := hf
  obtain ⟨⟨pa0, pa1⟩, ⟨pb0, pb1⟩, pc0, pc1⟩ := id hp
  obtain ⟨⟨ta0, ta1⟩, ⟨tb0, tb1⟩, tc0, tc1⟩ := id ht
  obtain ⟨l1, l2, l3⟩ := id hl
  dsimp only at f1 f2 f3 pa0 pa1 pb0 pb1 pc0 pc1 ta0 ta1 tb0 tb1 tc0 tc1 l1 l2 l3
  have hdo := fun W => do_loop_yes W pa pb pc bd ta tb tc a b hp ht ⟨f1, f2, f3⟩ hl
  obtain ⟨ua, hua⟩ : ∃ ua, ua = pa + ta := ⟨_, rfl⟩
  obtain ⟨ub, hub⟩ : ∃ ub, ub = pb + tb := ⟨_, rfl⟩
  obtain ⟨uc, huc⟩ : ∃ uc, uc = pc + tc := ⟨_, rfl⟩
  rw [← hua, ← hub, ← huc] at hdo
  rw [← hua] at f1 l1
  rw [← hub] at f2 l2
  rw [← huc] at f3 l3
  have ea : IntKind.u64.wrap (ta + pa) = ua := by rw [IntKind.wrap_u64]; omega
  have eb : IntKind.u64.wrap (tb + pb) = ub := by rw [IntKind.wrap_u64]; omega
  have ec : IntKind.u64.wrap (tc + pc) = uc := by rw [IntKind.wrap_u64]; omega
  have ga : decide (ua < ta) = false := by simp; omega
  have gb : decide (ub < tb) = false := by simp; omega
  have gc : decide (uc < tc) = false := by simp; omega
  have HUA := Lib.hid hua
  have HUB := Lib.hid hub
  have HUC := Lib.hid huc
  clear hua hub huc f1 f2 f3 pa1 pb1 pc1 ta0 ta1 tb0 tb1 tc0 tc1 hp ht hl
  obtain ⟨n, hn⟩ : ∃ n, n = l.length := ⟨_, rfl⟩
  rw [← hn] at hnew ⊢
  have HN := Lib.hid hn
  obtain ⟨nb, hnb⟩ : ∃ nb, nb = w.heap.size := ⟨_, rfl⟩
  clear hr hc hn h1
  simp only [nodeV] at hnew ⊢
  go_enter Try.func7, Try.ntmps7
  go_upto_region 1 with fail
  have k0 := D3.start (w := w) (rc := (ndc 5 ins outs A n c pa pb pc bd cv st)) (ta := ta) (tb := tb) (tc := tc) (a := a) (b := b)
  simp only [ndc] at k0
  generalize (((w.alloc (.cells #[.int .i64 5, .int .i64 ins, .int .i64 outs, .slice A n c, .int .u64 pa, .int .u64 pb, .int .u64 pc, .int .u64 bd, cv, .bool st] 47)).alloc (.cells #[.int .u64 ta, .int .u64 tb, .int .u64 tc] 58)).alloc (.cells #[.int .u64 a, .int .u64 b] 25)) = W0 at *
  rw [← hnb] at k0 hnew ⊢
  have HNB := Lib.hid hnb
  clear hnb
  go_upto_region 3 with (go_at_call 19; refine (taken_c _).mono ?_; rintro e w1 ⟨rfl, b1⟩)
  have k1 := k0.then b1
  clear k0 b1
  have ⟨z0, z1, z2, z3, z4, z5, z6, z7, z8, z9⟩ := D3.node k1
  go_upto_region 4 with (go_at_call 21; refine (hnew _ k1.be).mono ?_; rintro e w2 ⟨rfl, b2⟩)
  have k2 := k1.then b2
  clear z0 z1 z2 z3 z4 z5 z6 z7 z8 z9 k1 b2
  have ⟨z0, z1, z2, z3, z4, z5, z6, z7, z8, z9⟩ := D3.node k2
  go_upto_region 5 with (go_at_call 21; refine (hnew _ k2.be).mono ?_; rintro e w3 ⟨rfl, b3⟩)
  have k3 := k2.then b3
  skip
  clear z0 z1 z2 z3 z4 z5 z6 z7 z8 z9 k2 b3 hnew
  go_quiet (fail)
  have hme := fun (v : Value) (W : World) => meth74 v W
  have kd := k3.then (below_drewN (Below.refl _ _) nq)
  clear k3 
  generalize w3.drewN nq = wd at *
  go_upto_region 9 with fail
  obtain ⟨y0, y1, y2, y3, y4⟩ := kd.cells
  go_cut [11, 12, 13] (fun s11 s12 s13 wx => ∃ nu, D3 w wx nb (ndc 5 ins outs A n c pa pb pc bd cv st) ta tb tc a b ∧ nb + 3 ≤ nu ∧ s11 = .pointer (some ⟨nu, 0, none⟩) ∧ s12 = .pointer (some ⟨nu + 1, 0, none⟩) ∧ s13 = .bool true ∧ wx.heap[nu]? = some (.cells #[.int .u64 ua, .int .u64 ub, .int .u64 uc] 58 (0, 0)) ∧ wx.heap[nu + 1]? = some (.cells #[.int .u64 a, .int .u64 b] 25 (0, 0)))
  case first =>
    go_wp2_with (go_at_call 53; refine (hdo _).mono ?_; rintro e w4 ⟨rfl, b4⟩)
    have k4 := kd.then b4
    have ba : Below w4.heap.size w4 ((w4.alloc (.cells #[.int .u64 ua, .int .u64 ub, .int .u64 uc] 58)).alloc (.cells #[.int .u64 a, .int .u64 b] 25)) := ((Below.refl _ _).alloc (Nat.le_refl _) _).alloc (by simp) _
    go_meet
    exact ⟨w4.heap.size, k4.then ba, k4.lt, rfl, rfl, rfl, blk_alloc (alloc_at rfl) _, alloc_at (by simp)⟩
  case rest =>
  obtain ⟨nu, k5, hnu, rfl, rfl, rfl, xu, xs⟩ := hcut
  clear kd y0 y1 y2 y3 y4 
  obtain ⟨W5, hW5⟩ : ∃ W, W = wc := ⟨_, rfl⟩
  subst hW5
  go_upto_region 10 with fail
  obtain ⟨y0, y1, y2, y3, y4⟩ := k5.cells
  go_cut [14, 15, 16] (fun s14 s15 s16 wx => ∃ nv, D3 w wx nb (ndc 5 ins outs A n c pa pb pc bd cv st) ta tb tc a b ∧ nb + 3 ≤ nv ∧ s14 = .pointer (some ⟨nv, 0, none⟩) ∧ s15 = .pointer (some ⟨nv + 1, 0, none⟩) ∧ s16 = .bool true ∧ wx.heap[nv]? = some (.cells #[.int .u64 ua, .int .u64 ub, .int .u64 uc] 58 (0, 0)) ∧ wx.heap[nv + 1]? = some (.cells #[.int .u64 a, .int .u64 b] 25 (0, 0)) ∧ wx.heap[nu]? = some (.cells #[.int .u64 ua, .int .u64 ub, .int .u64 uc] 58 (0, 0)) ∧ wx.heap[nu + 1]? = some (.cells #[.int .u64 a, .int .u64 b] 25 (0, 0)))
  case first =>
    go_wp2_with (go_at_call 53; refine (hdo _).mono ?_; rintro e w6 ⟨rfl, b6⟩)
    have k6 := k5.then b6
    have ba : Below w6.heap.size w6 ((w6.alloc (.cells #[.int .u64 ua, .int .u64 ub, .int .u64 uc] 58)).alloc (.cells #[.int .u64 a, .int .u64 b] 25)) := ((Below.refl _ _).alloc (Nat.le_refl _) _).alloc (by simp) _
    go_meet
    exact ⟨w6.heap.size, k6.then ba, k6.lt, rfl, rfl, rfl, blk_alloc (alloc_at rfl) _, alloc_at (by simp), blk_below (blk_below xu b6) ba, blk_below (blk_below xs b6) ba⟩
  case rest =>
  obtain ⟨nv, k7, hnv, rfl, rfl, rfl, xv, xq, xu2, xs2⟩ := hcut
  clear k5 y0 y1 y2 y3 y4 xu xs hdo 
  obtain ⟨W7, hW7⟩ : ∃ W, W = wc := ⟨_, rfl⟩
  subst hW7
  obtain ⟨y0, y1, y2, y3, y4⟩ := k7.cells
  have ⟨z0, z1, z2, z3, z4, z5, z6, z7, z8, z9⟩ := D3.node k7
  have u0 := blk_cell xu2 0
  have u1 := blk_cell xu2 1
  have u2 := blk_cell xu2 2
  have s0 := blk_cell xs2 0
  have s1 := blk_cell xs2 1
  have v0 := blk_cell xv 0
  have v1 := blk_cell xv 1
  have v2 := blk_cell xv 2
  have q0 := blk_cell xq 0
  have q1 := blk_cell xq 1
  simp at u0 u1 u2 s0 s1 v0 v1 v2 q0 q1
  have HK := Lib.hid k7.be
  clear k7 xu2 xs2 xv xq z1 z2 z3 z8 z9
  go_wp2_with fail
  all_goals go_ret
  all_goals exact ⟨by first | rfl | (simp; omega) | simp, by rw [← HNB.out]; exact HK.out⟩
end Go.Proofs.Ytfbejjobejdenaa.PCodeSays
