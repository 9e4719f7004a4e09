/- The flows: does, loops. -/
import Derived.Test.YtfbejjobejdenaaFAsk2
set_option linter.unusedVariables false
set_option linter.unusedSimpArgs false
namespace Go.Proofs.Ytfbejjobejdenaa.PCodeSays
open Go.RowKit Go.Proofs.YtfbejjobejdenaaW.PrintWords Go.Proofs.YtfbejjobejdenaaW.PrintLast Go.Proofs.YtfbejjobejdenaaW.PrintMore
set_option maxRecDepth 100000 in
set_option maxHeartbeats 4000000 in
theorem ask_over {w : World} {A : Option Addr} {c : Nat} {l : List S29} (hr : Row w A l) (hc : l.length ≤ c) (ins outs pa pb pc bd : Int) (cv : Value) (st : Bool) (h1 : cv.oneCell' = true) (ta tb tc a b : Int) (hp : T3.ok ⟨pa, pb, pc⟩) (ht : T3.ok ⟨ta, tb, tc⟩) (hf : ¬ T3.fits ⟨pa, pb, pc⟩ ⟨ta, tb, tc⟩) :
    Calls Try.prog 23 #[.iface 74 (.agg #[.int .u64 pa, .int .u64 pb, .int .u64 pc, .int .u64 bd]), nodeV 5 ins outs A l.length c ⟨pa, pb, pc⟩ bd cv st, .agg #[.int .u64 ta, .int .u64 tb, .int .u64 tc, .int .u64 a, .int .u64 b]] w fun e w' => e = .returned (.bool true) ∧ Below w.heap.size w w' := by
  have hme := fun (v : Value) (W : World) => meth74 v W
  have hdo : ∀ W, Below w.heap.size w W → Calls Try.prog 53 #[.agg #[.int .u64 pa, .int .u64 pb, .int .u64 pc, .int .u64 bd], .agg #[.int .u64 ta, .int .u64 tb, .int .u64 tc], .agg #[.int .u64 a, .int .u64 b]] W fun e w' => e = .returned (.tuple #[.agg #[.int .u64 0, .int .u64 0, .int .u64 0], .agg #[.int .u64 0, .int .u64 0], .bool false]) ∧ Below W.heap.size W w' := fun W hb => do_loop_over W pa pb pc bd ta tb tc a b hp ht hf
  have href : ∀ W, Below w.heap.size w W → Calls Try.prog 31 #[nodeV 5 ins outs A l.length c ⟨pa, pb, pc⟩ bd cv st, .agg #[.int .u64 ta, .int .u64 tb, .int .u64 tc], .agg #[.int .u64 a, .int .u64 b]] W fun e w' => e = .returned (.tuple #[.agg #[.int .u64 0, .int .u64 0, .int .u64 0], .agg #[.int .u64 0, .int .u64 0], .bool false]) ∧ Below W.heap.size W w' := fun W hb => rdo_loop_no (hr.below hb) hc ins outs pa pb pc bd cv st h1 ta tb tc a b hp ht (fun h => hf h.1)
  obtain ⟨n, hn⟩ : ∃ n, n = l.length := ⟨_, rfl⟩
  rw [← hn] at href ⊢
  clear hr hc hn h1  hp ht hf
  obtain ⟨nb, hnb⟩ : ∃ nb, nb = w.heap.size := ⟨_, rfl⟩
  simp only [nodeV] at href ⊢
  go_enter Try.func23, Try.ntmps23
  go_upto_region 1 with fail
  have k0 := D2.start (w := w) (rc := (ndc 5 ins outs A n c pa pb pc bd cv st)) (ta := ta) (tb := tb) (tc := tc) (a := a) (b := b)
  simp only [ndc] at k0
  generalize (w.alloc (.cells #[.int .i64 5, .int .i64 ins, .int .i64 outs, .slice A n c, .int .u64 pa, .int .u64 pb, .int .u64 pc, .int .u64 bd, cv, .bool st] 47)).alloc (.cells #[.int .u64 ta, .int .u64 tb, .int .u64 tc, .int .u64 a, .int .u64 b] 60) = W0 at *
  rw [← hnb] at k0 hdo href ⊢
  have HNB := Lib.hid hnb
  clear hnb
  obtain ⟨y0, y1, y2, y3, y4⟩ := k0.cells
  go_cut [7, 8, 9] (fun s7 s8 s9 wx => ∃ nu, D2 w wx nb (ndc 5 ins outs A n c pa pb pc bd cv st) ta tb tc a b ∧ nb + 2 ≤ nu ∧ s7 = .pointer (some ⟨nu, 0, none⟩) ∧ s8 = .pointer (some ⟨nu + 1, 0, none⟩) ∧ s9 = .bool false ∧ wx.heap[nu]? = some (.cells #[.int .u64 0, .int .u64 0, .int .u64 0] 58 (0, 0)) ∧ wx.heap[nu + 1]? = some (.cells #[.int .u64 0, .int .u64 0] 25 (0, 0)))
  case first =>
    go_wp2_with (go_at_call 53; refine (hdo _ k0.be).mono ?_; rintro e w4 ⟨rfl, b4⟩)
    have k4 := k0.then b4
    have ba : Below w4.heap.size w4 ((w4.alloc (.cells #[.int .u64 0, .int .u64 0, .int .u64 0] 58)).alloc (.cells #[.int .u64 0, .int .u64 0] 25)) := ((Below.refl _ _).alloc (Nat.le_refl _) _).alloc (by simp) _
    go_meet
    exact ⟨w4.heap.size, k4.then ba, k4.lt, rfl, rfl, rfl, blk_alloc (alloc_at rfl) _, alloc_at (by simp)⟩
  case rest =>
  obtain ⟨nu, k5, hnu, rfl, rfl, rfl, xu, xs⟩ := hcut
  clear k0 y0 y1 y2 y3 y4 hdo
  obtain ⟨W5, hW5⟩ : ∃ W, W = wc := ⟨_, rfl⟩
  subst hW5
  go_upto_region 2 with fail
  obtain ⟨y0, y1, y2, y3, y4⟩ := k5.cells
  have ⟨z0, z1, z2, z3, z4, z5, z6, z7, z8, z9⟩ := D2.node k5
  go_cut [10, 11, 12] (fun s10 s11 s12 wx => ∃ nv, D2 w wx nb (ndc 5 ins outs A n c pa pb pc bd cv st) ta tb tc a b ∧ s10 = .pointer (some ⟨nv, 0, none⟩) ∧ s11 = .pointer (some ⟨nv + 1, 0, none⟩) ∧ s12 = .bool false ∧ wx.heap[nv]? = some (.cells #[.int .u64 0, .int .u64 0, .int .u64 0] 58 (0, 0)) ∧ wx.heap[nv + 1]? = some (.cells #[.int .u64 0, .int .u64 0] 25 (0, 0)) ∧ wx.heap[nu]? = some (.cells #[.int .u64 0, .int .u64 0, .int .u64 0] 58 (0, 0)) ∧ wx.heap[nu + 1]? = some (.cells #[.int .u64 0, .int .u64 0] 25 (0, 0)))
  case first =>
    go_wp2_with (go_at_call 31; refine (href _ k5.be).mono ?_; rintro e w6 ⟨rfl, b6⟩)
    have k6 := k5.then b6
    have ba : Below w6.heap.size w6 ((w6.alloc (.cells #[.int .u64 0, .int .u64 0, .int .u64 0] 58)).alloc (.cells #[.int .u64 0, .int .u64 0] 25)) := ((Below.refl _ _).alloc (Nat.le_refl _) _).alloc (by simp) _
    go_meet
    exact ⟨w6.heap.size, k6.then ba, rfl, rfl, rfl, blk_alloc (alloc_at rfl) _, alloc_at (by simp), blk_below (blk_below xu b6) ba, blk_below (blk_below xs b6) ba⟩
  case rest =>
  obtain ⟨nv, k7, rfl, rfl, rfl, xv, xq, xu2, xs2⟩ := hcut
  clear k5 y0 y1 y2 y3 y4 z0 z1 z2 z3 z4 z5 z6 z7 z8 z9 xu xs href
  obtain ⟨W7, hW7⟩ : ∃ W, W = wc := ⟨_, rfl⟩
  subst hW7
  have u0 := blk_cell xu2 0
  have u1 := blk_cell xu2 1
  have u2 := blk_cell xu2 2
  have s0 := blk_cell xs2 0
  have s1 := blk_cell xs2 1
  have v0 := blk_cell xv 0
  have v1 := blk_cell xv 1
  have v2 := blk_cell xv 2
  have q0 := blk_cell xq 0
  have q1 := blk_cell xq 1
  simp at u0 u1 u2 s0 s1 v0 v1 v2 q0 q1
  have HK := Lib.hid k7.be
  clear k7 xu2 xs2 xv xq
  go_wp2_with fail
  go_ret
  exact ⟨rfl, by rw [← HNB.out]; exact HK.out⟩
set_option maxRecDepth 100000 in
set_option maxHeartbeats 4000000 in
theorem ask_no {w : World} {A : Option Addr} {c : Nat} {l : List S29} (hr : Row w A l) (hc : l.length ≤ c) (ins outs pa pb pc bd : Int) (cv : Value) (st : Bool) (h1 : cv.oneCell' = true) (ta tb tc a b : Int) (hp : T3.ok ⟨pa, pb, pc⟩) (ht : T3.ok ⟨ta, tb, tc⟩) (hf : T3.fits ⟨pa, pb, pc⟩ ⟨ta, tb, tc⟩) (hl : ¬ loopOk ⟨pa, pb, pc⟩ ⟨ta, tb, tc⟩ bd) :
    Calls Try.prog 23 #[.iface 74 (.agg #[.int .u64 pa, .int .u64 pb, .int .u64 pc, .int .u64 bd]), nodeV 5 ins outs A l.length c ⟨pa, pb, pc⟩ bd cv st, .agg #[.int .u64 ta, .int .u64 tb, .int .u64 tc, .int .u64 a, .int .u64 b]] w fun e w' => e = .returned (.bool true) ∧ Below w.heap.size w w' := by
  have hme := fun (v : Value) (W : World) => meth74 v W
  have hdo : ∀ W, Below w.heap.size w W → Calls Try.prog 53 #[.agg #[.int .u64 pa, .int .u64 pb, .int .u64 pc, .int .u64 bd], .agg #[.int .u64 ta, .int .u64 tb, .int .u64 tc], .agg #[.int .u64 a, .int .u64 b]] W fun e w' => e = .returned (.tuple #[.agg #[.int .u64 0, .int .u64 0, .int .u64 0], .agg #[.int .u64 0, .int .u64 0], .bool false]) ∧ Below W.heap.size W w' := fun W hb => do_loop_no W pa pb pc bd ta tb tc a b hp ht hf hl
  have href : ∀ W, Below w.heap.size w W → Calls Try.prog 31 #[nodeV 5 ins outs A l.length c ⟨pa, pb, pc⟩ bd cv st, .agg #[.int .u64 ta, .int .u64 tb, .int .u64 tc], .agg #[.int .u64 a, .int .u64 b]] W fun e w' => e = .returned (.tuple #[.agg #[.int .u64 0, .int .u64 0, .int .u64 0], .agg #[.int .u64 0, .int .u64 0], .bool false]) ∧ Below W.heap.size W w' := fun W hb => rdo_loop_no (hr.below hb) hc ins outs pa pb pc bd cv st h1 ta tb tc a b hp ht (fun h => hl h.2)
  obtain ⟨n, hn⟩ : ∃ n, n = l.length := ⟨_, rfl⟩
  rw [← hn] at href ⊢
  clear hr hc hn h1  hp ht hf hl
  obtain ⟨nb, hnb⟩ : ∃ nb, nb = w.heap.size := ⟨_, rfl⟩
  simp only [nodeV] at href ⊢
  go_enter Try.func23, Try.ntmps23
  go_upto_region 1 with fail
  have k0 := D2.start (w := w) (rc := (ndc 5 ins outs A n c pa pb pc bd cv st)) (ta := ta) (tb := tb) (tc := tc) (a := a) (b := b)
  simp only [ndc] at k0
  generalize (w.alloc (.cells #[.int .i64 5, .int .i64 ins, .int .i64 outs, .slice A n c, .int .u64 pa, .int .u64 pb, .int .u64 pc, .int .u64 bd, cv, .bool st] 47)).alloc (.cells #[.int .u64 ta, .int .u64 tb, .int .u64 tc, .int .u64 a, .int .u64 b] 60) = W0 at *
  rw [← hnb] at k0 hdo href ⊢
  have HNB := Lib.hid hnb
  clear hnb
  obtain ⟨y0, y1, y2, y3, y4⟩ := k0.cells
  go_cut [7, 8, 9] (fun s7 s8 s9 wx => ∃ nu, D2 w wx nb (ndc 5 ins outs A n c pa pb pc bd cv st) ta tb tc a b ∧ nb + 2 ≤ nu ∧ s7 = .pointer (some ⟨nu, 0, none⟩) ∧ s8 = .pointer (some ⟨nu + 1, 0, none⟩) ∧ s9 = .bool false ∧ wx.heap[nu]? = some (.cells #[.int .u64 0, .int .u64 0, .int .u64 0] 58 (0, 0)) ∧ wx.heap[nu + 1]? = some (.cells #[.int .u64 0, .int .u64 0] 25 (0, 0)))
  case first =>
    go_wp2_with (go_at_call 53; refine (hdo _ k0.be).mono ?_; rintro e w4 ⟨rfl, b4⟩)
    have k4 := k0.then b4
    have ba : Below w4.heap.size w4 ((w4.alloc (.cells #[.int .u64 0, .int .u64 0, .int .u64 0] 58)).alloc (.cells #[.int .u64 0, .int .u64 0] 25)) := ((Below.refl _ _).alloc (Nat.le_refl _) _).alloc (by simp) _
    go_meet
    exact ⟨w4.heap.size, k4.then ba, k4.lt, rfl, rfl, rfl, blk_alloc (alloc_at rfl) _, alloc_at (by simp)⟩
  case rest =>
  obtain ⟨nu, k5, hnu, rfl, rfl, rfl, xu, xs⟩ := hcut
  clear k0 y0 y1 y2 y3 y4 hdo
  obtain ⟨W5, hW5⟩ : ∃ W, W = wc := ⟨_, rfl⟩
  subst hW5
  go_upto_region 2 with fail
  obtain ⟨y0, y1, y2, y3, y4⟩ := k5.cells
  have ⟨z0, z1, z2, z3, z4, z5, z6, z7, z8, z9⟩ := D2.node k5
  go_cut [10, 11, 12] (fun s10 s11 s12 wx => ∃ nv, D2 w wx nb (ndc 5 ins outs A n c pa pb pc bd cv st) ta tb tc a b ∧ s10 = .pointer (some ⟨nv, 0, none⟩) ∧ s11 = .pointer (some ⟨nv + 1, 0, none⟩) ∧ s12 = .bool false ∧ wx.heap[nv]? = some (.cells #[.int .u64 0, .int .u64 0, .int .u64 0] 58 (0, 0)) ∧ wx.heap[nv + 1]? = some (.cells #[.int .u64 0, .int .u64 0] 25 (0, 0)) ∧ wx.heap[nu]? = some (.cells #[.int .u64 0, .int .u64 0, .int .u64 0] 58 (0, 0)) ∧ wx.heap[nu + 1]? = some (.cells #[.int .u64 0, .int .u64 0] 25 (0, 0)))
  case first =>
    go_wp2_with (go_at_call 31; refine (href _ k5.be).mono ?_; rintro e w6 ⟨rfl, b6⟩)
    have k6 := k5.then b6
    have ba : Below w6.heap.size w6 ((w6.alloc (.cells #[.int .u64 0, .int .u64 0, .int .u64 0] 58)).alloc (.cells #[.int .u64 0, .int .u64 0] 25)) := ((Below.refl _ _).alloc (Nat.le_refl _) _).alloc (by simp) _
    go_meet
    exact ⟨w6.heap.size, k6.then ba, rfl, rfl, rfl, blk_alloc (alloc_at rfl) _, alloc_at (by simp), blk_below (blk_below xu b6) ba, blk_below (blk_below xs b6) ba⟩
  case rest =>
  obtain ⟨nv, k7, rfl, rfl, rfl, xv, xq, xu2, xs2⟩ := hcut
  clear k5 y0 y1 y2 y3 y4 z0 z1 z2 z3 z4 z5 z6 z7 z8 z9 xu xs href
  obtain ⟨W7, hW7⟩ : ∃ W, W = wc := ⟨_, rfl⟩
  subst hW7
  have u0 := blk_cell xu2 0
  have u1 := blk_cell xu2 1
  have u2 := blk_cell xu2 2
  have s0 := blk_cell xs2 0
  have s1 := blk_cell xs2 1
  have v0 := blk_cell xv 0
  have v1 := blk_cell xv 1
  have v2 := blk_cell xv 2
  have q0 := blk_cell xq 0
  have q1 := blk_cell xq 1
  simp at u0 u1 u2 s0 s1 v0 v1 v2 q0 q1
  have HK := Lib.hid k7.be
  clear k7 xu2 xs2 xv xq
  go_wp2_with fail
  go_ret
  exact ⟨rfl, by rw [← HNB.out]; exact HK.out⟩
set_option maxRecDepth 100000 in
set_option maxHeartbeats 4000000 in
theorem ask_yes {w : World} {A : Option Addr} {c : Nat} {l : List S29} (hr : Row w A l) (hc : l.length ≤ c) (ins outs pa pb pc bd : Int) (cv : Value) (st : Bool) (h1 : cv.oneCell' = true) (ta tb tc a b : Int) (hp : T3.ok ⟨pa, pb, pc⟩) (ht : T3.ok ⟨ta, tb, tc⟩) (hf : T3.fits ⟨pa, pb, pc⟩ ⟨ta, tb, tc⟩) (hl : loopOk ⟨pa, pb, pc⟩ ⟨ta, tb, tc⟩ bd) :
    Calls Try.prog 23 #[.iface 74 (.agg #[.int .u64 pa, .int .u64 pb, .int .u64 pc, .int .u64 bd]), nodeV 5 ins outs A l.length c ⟨pa, pb, pc⟩ bd cv st, .agg #[.int .u64 ta, .int .u64 tb, .int .u64 tc, .int .u64 a, .int .u64 b]] w fun e w' => e = .returned (.bool true) ∧ Below w.heap.size w w' := by
  have hme := fun (v : Value) (W : World) => meth74 v W
  have hdo : ∀ W, Below w.heap.size w W → Calls Try.prog 53 #[.agg #[.int .u64 pa, .int .u64 pb, .int .u64 pc, .int .u64 bd], .agg #[.int .u64 ta, .int .u64 tb, .int .u64 tc], .agg #[.int .u64 a, .int .u64 b]] W fun e w' => e = .returned (.tuple #[.agg #[.int .u64 (pa + ta), .int .u64 (pb + tb), .int .u64 (pc + tc)], .agg #[.int .u64 a, .int .u64 b], .bool true]) ∧ Below W.heap.size W w' := fun W hb => do_loop_yes W pa pb pc bd ta tb tc a b hp ht hf hl
  have href : ∀ W, Below w.heap.size w W → Calls Try.prog 31 #[nodeV 5 ins outs A l.length c ⟨pa, pb, pc⟩ bd cv st, .agg #[.int .u64 ta, .int .u64 tb, .int .u64 tc], .agg #[.int .u64 a, .int .u64 b]] W fun e w' => e = .returned (.tuple #[.agg #[.int .u64 (pa + ta), .int .u64 (pb + tb), .int .u64 (pc + tc)], .agg #[.int .u64 a, .int .u64 b], .bool true]) ∧ Below W.heap.size W w' := fun W hb => rdo_loop_yes (hr.below hb) hc ins outs pa pb pc bd cv st h1 ta tb tc a b hp ht ⟨hf, hl⟩
  obtain ⟨ua, hua⟩ : ∃ ua, ua = pa + ta := ⟨_, rfl⟩
  obtain ⟨ub, hub⟩ : ∃ ub, ub = pb + tb := ⟨_, rfl⟩
  obtain ⟨uc, huc⟩ : ∃ uc, uc = pc + tc := ⟨_, rfl⟩
  rw [← hua, ← hub, ← huc] at hdo href
  clear hua hub huc
  obtain ⟨n, hn⟩ : ∃ n, n = l.length := ⟨_, rfl⟩
  rw [← hn] at href ⊢
  clear hr hc hn h1  hp ht hf hl
  obtain ⟨nb, hnb⟩ : ∃ nb, nb = w.heap.size := ⟨_, rfl⟩
  simp only [nodeV] at href ⊢
  go_enter Try.func23, Try.ntmps23
  go_upto_region 1 with fail
  have k0 := D2.start (w := w) (rc := (ndc 5 ins outs A n c pa pb pc bd cv st)) (ta := ta) (tb := tb) (tc := tc) (a := a) (b := b)
  simp only [ndc] at k0
  generalize (w.alloc (.cells #[.int .i64 5, .int .i64 ins, .int .i64 outs, .slice A n c, .int .u64 pa, .int .u64 pb, .int .u64 pc, .int .u64 bd, cv, .bool st] 47)).alloc (.cells #[.int .u64 ta, .int .u64 tb, .int .u64 tc, .int .u64 a, .int .u64 b] 60) = W0 at *
  rw [← hnb] at k0 hdo href ⊢
  have HNB := Lib.hid hnb
  clear hnb
  obtain ⟨y0, y1, y2, y3, y4⟩ := k0.cells
  go_cut [7, 8, 9] (fun s7 s8 s9 wx => ∃ nu, D2 w wx nb (ndc 5 ins outs A n c pa pb pc bd cv st) ta tb tc a b ∧ nb + 2 ≤ nu ∧ s7 = .pointer (some ⟨nu, 0, none⟩) ∧ s8 = .pointer (some ⟨nu + 1, 0, none⟩) ∧ s9 = .bool true ∧ wx.heap[nu]? = some (.cells #[.int .u64 ua, .int .u64 ub, .int .u64 uc] 58 (0, 0)) ∧ wx.heap[nu + 1]? = some (.cells #[.int .u64 a, .int .u64 b] 25 (0, 0)))
  case first =>
    go_wp2_with (go_at_call 53; refine (hdo _ k0.be).mono ?_; rintro e w4 ⟨rfl, b4⟩)
    have k4 := k0.then b4
    have ba : Below w4.heap.size w4 ((w4.alloc (.cells #[.int .u64 ua, .int .u64 ub, .int .u64 uc] 58)).alloc (.cells #[.int .u64 a, .int .u64 b] 25)) := ((Below.refl _ _).alloc (Nat.le_refl _) _).alloc (by simp) _
    go_meet
    exact ⟨w4.heap.size, k4.then ba, k4.lt, rfl, rfl, rfl, blk_alloc (alloc_at rfl) _, alloc_at (by simp)⟩
  case rest =>
  obtain ⟨nu, k5, hnu, rfl, rfl, rfl, xu, xs⟩ := hcut
  clear k0 y0 y1 y2 y3 y4 hdo
  obtain ⟨W5, hW5⟩ : ∃ W, W = wc := ⟨_, rfl⟩
  subst hW5
  go_upto_region 2 with fail
  obtain ⟨y0, y1, y2, y3, y4⟩ := k5.cells
  have ⟨z0, z1, z2, z3, z4, z5, z6, z7, z8, z9⟩ := D2.node k5
  go_cut [10, 11, 12] (fun s10 s11 s12 wx => ∃ nv, D2 w wx nb (ndc 5 ins outs A n c pa pb pc bd cv st) ta tb tc a b ∧ s10 = .pointer (some ⟨nv, 0, none⟩) ∧ s11 = .pointer (some ⟨nv + 1, 0, none⟩) ∧ s12 = .bool true ∧ wx.heap[nv]? = some (.cells #[.int .u64 ua, .int .u64 ub, .int .u64 uc] 58 (0, 0)) ∧ wx.heap[nv + 1]? = some (.cells #[.int .u64 a, .int .u64 b] 25 (0, 0)) ∧ wx.heap[nu]? = some (.cells #[.int .u64 ua, .int .u64 ub, .int .u64 uc] 58 (0, 0)) ∧ wx.heap[nu + 1]? = some (.cells #[.int .u64 a, .int .u64 b] 25 (0, 0)))
  case first =>
    go_wp2_with (go_at_call 31; refine (href _ k5.be).mono ?_; rintro e w6 ⟨rfl, b6⟩)
    have k6 := k5.then b6
    have ba : Below w6.heap.size w6 ((w6.alloc (.cells #[.int .u64 ua, .int .u64 ub, .int .u64 uc] 58)).alloc (.cells #[.int .u64 a, .int .u64 b] 25)) := ((Below.refl _ _).alloc (Nat.le_refl _) _).alloc (by simp) _
    go_meet
    exact ⟨w6.heap.size, k6.then ba, rfl, rfl, rfl, blk_alloc (alloc_at rfl) _, alloc_at (by simp), blk_below (blk_below xu b6) ba, blk_below (blk_below xs b6) ba⟩
  case rest =>
  obtain ⟨nv, k7, rfl, rfl, rfl, xv, xq, xu2, xs2⟩ := hcut
  clear k5 y0 y1 y2 y3 y4 z0 z1 z2 z3 z4 z5 z6 z7 z8 z9 xu xs href
  obtain ⟨W7, hW7⟩ : ∃ W, W = wc := ⟨_, rfl⟩
  subst hW7
  have u0 := blk_cell xu2 0
  have u1 := blk_cell xu2 1
  have u2 := blk_cell xu2 2
  have s0 := blk_cell xs2 0
  have s1 := blk_cell xs2 1
  have v0 := blk_cell xv 0
  have v1 := blk_cell xv 1
  have v2 := blk_cell xv 2
  have q0 := blk_cell xq 0
  have q1 := blk_cell xq 1
  simp at u0 u1 u2 s0 s1 v0 v1 v2 q0 q1
  have HK := Lib.hid k7.be
  clear k7 xu2 xs2 xv xq
  go_wp2_with fail
  go_ret
  exact ⟨rfl, by rw [← HNB.out]; exact HK.out⟩
/-- does: an operator's answer is the document's. -/
theorem ask_c {w : World} {A : Option Addr} {c : Nat} {l : List S29} {v : Value} {kind : Int} (hr : Row w A l) (hc : l.length ≤ c) (ins outs pa pb pc bd : Int) (hf : IsFlow w v kind l ⟨pa, pb, pc⟩ bd) (cv : Value) (st : Bool) (h1 : cv.oneCell' = true) (ta tb tc a b : Int) (hp : T3.ok ⟨pa, pb, pc⟩) (ht : T3.ok ⟨ta, tb, tc⟩) :
    Calls Try.prog 23 #[v, nodeV kind ins outs A l.length c ⟨pa, pb, pc⟩ bd cv st, .agg #[.int .u64 ta, .int .u64 tb, .int .u64 tc, .int .u64 a, .int .u64 b]] w fun e w' => e = .returned (.bool true) ∧ Below w.heap.size w w' := by
  rcases hf with ⟨rfl, _, A2, c2, rfl, r2, h2⟩ | ⟨rfl, _, A2, c2, rfl, r2, h2⟩ | ⟨rfl, rfl⟩ | ⟨rfl, rfl⟩
  · exact ask_map hr hc A2 c2 r2 h2 ins outs pa pb pc bd cv st h1 ta tb tc a b _ _ rfl
  · cases hm : passP l (a, b)
    · exact ask_ff hr hc A2 c2 r2 h2 ins outs pa pb pc bd cv st h1 ta tb tc a b hm
    · exact ask_ft hr hc A2 c2 r2 h2 ins outs pa pb pc bd cv st h1 ta tb tc a b hm
  · exact ask_join hr hc ins outs pa pb pc bd cv st h1 ta tb tc a b
  · by_cases hf : T3.fits ⟨pa, pb, pc⟩ ⟨ta, tb, tc⟩
    · by_cases hl : loopOk ⟨pa, pb, pc⟩ ⟨ta, tb, tc⟩ bd
      · exact ask_yes hr hc ins outs pa pb pc bd cv st h1 ta tb tc a b hp ht hf hl
      · exact ask_no hr hc ins outs pa pb pc bd cv st h1 ta tb tc a b hp ht hf hl
    · exact ask_over hr hc ins outs pa pb pc bd cv st h1 ta tb tc a b hp ht hf
end Go.Proofs.Ytfbejjobejdenaa.PCodeSays
