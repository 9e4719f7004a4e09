/- The flows: does, filters and joins. -/
import Derived.Test.YtfbejjobejdenaaFAsk
set_option linter.unusedVariables false
set_option linter.unusedSimpArgs false
namespace Go.Proofs.Ytfbejjobejdenaa.PCodeSays
open Go.RowKit Go.Proofs.YtfbejjobejdenaaW.PrintWords Go.Proofs.YtfbejjobejdenaaW.PrintLast Go.Proofs.YtfbejjobejdenaaW.PrintMore
set_option maxRecDepth 100000 in
set_option maxHeartbeats 4000000 in
theorem ask_ff {w : World} {A : Option Addr} {c : Nat} {l : List S29} (hr : Row w A l) (hc : l.length ≤ c) (A2 : Option Addr) (c2 : Nat) (hr2 : Row w A2 l) (hc2 : l.length ≤ c2) (ins outs pa pb pc bd : Int) (cv : Value) (st : Bool) (h1 : cv.oneCell' = true) (ta tb tc a b : Int) (hm : passP l (a, b) = false) :
    Calls Try.prog 23 #[.iface 71 (.agg #[.slice A2 l.length c2]), nodeV 3 ins outs A l.length c ⟨pa, pb, pc⟩ bd cv st, .agg #[.int .u64 ta, .int .u64 tb, .int .u64 tc, .int .u64 a, .int .u64 b]] w fun e w' => e = .returned (.bool true) ∧ Below w.heap.size w w' := by
  have hme := fun (v : Value) (W : World) => meth71 v W
  have hdo : ∀ W, Below w.heap.size w W → Calls Try.prog 51 #[.agg #[.slice A2 l.length c2], .agg #[.int .u64 ta, .int .u64 tb, .int .u64 tc], .agg #[.int .u64 a, .int .u64 b]] W fun e w' => e = .returned (.tuple #[.agg #[.int .u64 0, .int .u64 0, .int .u64 0], .agg #[.int .u64 0, .int .u64 0], .bool false]) ∧ Below W.heap.size W w' := fun W hb => do_filter_false (hr2.below hb) hc2 ta tb tc a b hm
  have href : ∀ W, Below w.heap.size w W → Calls Try.prog 31 #[nodeV 3 ins outs A l.length c ⟨pa, pb, pc⟩ bd cv st, .agg #[.int .u64 ta, .int .u64 tb, .int .u64 tc], .agg #[.int .u64 a, .int .u64 b]] W fun e w' => e = .returned (.tuple #[.agg #[.int .u64 0, .int .u64 0, .int .u64 0], .agg #[.int .u64 0, .int .u64 0], .bool false]) ∧ Below W.heap.size W w' := fun W hb => rdo_filter_false (hr.below hb) hc ins outs pa pb pc bd cv st h1 ta tb tc a b hm
  obtain ⟨n, hn⟩ : ∃ n, n = l.length := ⟨_, rfl⟩
  rw [← hn] at hdo href ⊢
  clear hr hc hn h1 hr2 hc2 hm
  obtain ⟨nb, hnb⟩ : ∃ nb, nb = w.heap.size := ⟨_, rfl⟩
  simp only [nodeV] at href ⊢
  go_enter Try.func23, Try.ntmps23
  go_upto_region 1 with fail
  have k0 := D2.start (w := w) (rc := (ndc 3 ins outs A n c pa pb pc bd cv st)) (ta := ta) (tb := tb) (tc := tc) (a := a) (b := b)
  simp only [ndc] at k0
  generalize (w.alloc (.cells #[.int .i64 3, .int .i64 ins, .int .i64 outs, .slice A n c, .int .u64 pa, .int .u64 pb, .int .u64 pc, .int .u64 bd, cv, .bool st] 47)).alloc (.cells #[.int .u64 ta, .int .u64 tb, .int .u64 tc, .int .u64 a, .int .u64 b] 60) = W0 at *
  rw [← hnb] at k0 hdo href ⊢
  have HNB := Lib.hid hnb
  clear hnb
  obtain ⟨y0, y1, y2, y3, y4⟩ := k0.cells
  go_cut [7, 8, 9] (fun s7 s8 s9 wx => ∃ nu, D2 w wx nb (ndc 3 ins outs A n c pa pb pc bd cv st) ta tb tc a b ∧ nb + 2 ≤ nu ∧ s7 = .pointer (some ⟨nu, 0, none⟩) ∧ s8 = .pointer (some ⟨nu + 1, 0, none⟩) ∧ s9 = .bool false ∧ wx.heap[nu]? = some (.cells #[.int .u64 0, .int .u64 0, .int .u64 0] 58 (0, 0)) ∧ wx.heap[nu + 1]? = some (.cells #[.int .u64 0, .int .u64 0] 25 (0, 0)))
  case first =>
    go_wp2_with (go_at_call 51; refine (hdo _ k0.be).mono ?_; rintro e w4 ⟨rfl, b4⟩)
    have k4 := k0.then b4
    have ba : Below w4.heap.size w4 ((w4.alloc (.cells #[.int .u64 0, .int .u64 0, .int .u64 0] 58)).alloc (.cells #[.int .u64 0, .int .u64 0] 25)) := ((Below.refl _ _).alloc (Nat.le_refl _) _).alloc (by simp) _
    go_meet
    exact ⟨w4.heap.size, k4.then ba, k4.lt, rfl, rfl, rfl, blk_alloc (alloc_at rfl) _, alloc_at (by simp)⟩
  case rest =>
  obtain ⟨nu, k5, hnu, rfl, rfl, rfl, xu, xs⟩ := hcut
  clear k0 y0 y1 y2 y3 y4 hdo
  obtain ⟨W5, hW5⟩ : ∃ W, W = wc := ⟨_, rfl⟩
  subst hW5
  go_upto_region 2 with fail
  obtain ⟨y0, y1, y2, y3, y4⟩ := k5.cells
  have ⟨z0, z1, z2, z3, z4, z5, z6, z7, z8, z9⟩ := D2.node k5
  go_cut [10, 11, 12] (fun s10 s11 s12 wx => ∃ nv, D2 w wx nb (ndc 3 ins outs A n c pa pb pc bd cv st) ta tb tc a b ∧ s10 = .pointer (some ⟨nv, 0, none⟩) ∧ s11 = .pointer (some ⟨nv + 1, 0, none⟩) ∧ s12 = .bool false ∧ wx.heap[nv]? = some (.cells #[.int .u64 0, .int .u64 0, .int .u64 0] 58 (0, 0)) ∧ wx.heap[nv + 1]? = some (.cells #[.int .u64 0, .int .u64 0] 25 (0, 0)) ∧ wx.heap[nu]? = some (.cells #[.int .u64 0, .int .u64 0, .int .u64 0] 58 (0, 0)) ∧ wx.heap[nu + 1]? = some (.cells #[.int .u64 0, .int .u64 0] 25 (0, 0)))
  case first =>
    go_wp2_with (go_at_call 31; refine (href _ k5.be).mono ?_; rintro e w6 ⟨rfl, b6⟩)
    have k6 := k5.then b6
    have ba : Below w6.heap.size w6 ((w6.alloc (.cells #[.int .u64 0, .int .u64 0, .int .u64 0] 58)).alloc (.cells #[.int .u64 0, .int .u64 0] 25)) := ((Below.refl _ _).alloc (Nat.le_refl _) _).alloc (by simp) _
    go_meet
    exact ⟨w6.heap.size, k6.then ba, rfl, rfl, rfl, blk_alloc (alloc_at rfl) _, alloc_at (by simp), blk_below (blk_below xu b6) ba, blk_below (blk_below xs b6) ba⟩
  case rest =>
  obtain ⟨nv, k7, rfl, rfl, rfl, xv, xq, xu2, xs2⟩ := hcut
  clear k5 y0 y1 y2 y3 y4 z0 z1 z2 z3 z4 z5 z6 z7 z8 z9 xu xs href
  obtain ⟨W7, hW7⟩ : ∃ W, W = wc := ⟨_, rfl⟩
  subst hW7
  have u0 := blk_cell xu2 0
  have u1 := blk_cell xu2 1
  have u2 := blk_cell xu2 2
  have s0 := blk_cell xs2 0
  have s1 := blk_cell xs2 1
  have v0 := blk_cell xv 0
  have v1 := blk_cell xv 1
  have v2 := blk_cell xv 2
  have q0 := blk_cell xq 0
  have q1 := blk_cell xq 1
  simp at u0 u1 u2 s0 s1 v0 v1 v2 q0 q1
  have HK := Lib.hid k7.be
  clear k7 xu2 xs2 xv xq
  go_wp2_with fail
  go_ret
  exact ⟨rfl, by rw [← HNB.out]; exact HK.out⟩
set_option maxRecDepth 100000 in
set_option maxHeartbeats 4000000 in
theorem ask_join {w : World} {A : Option Addr} {c : Nat} {l : List S29} (hr : Row w A l) (hc : l.length ≤ c) (ins outs pa pb pc bd : Int) (cv : Value) (st : Bool) (h1 : cv.oneCell' = true) (ta tb tc a b : Int)  :
    Calls Try.prog 23 #[.iface 72 (.agg #[]), nodeV 4 ins outs A l.length c ⟨pa, pb, pc⟩ bd cv st, .agg #[.int .u64 ta, .int .u64 tb, .int .u64 tc, .int .u64 a, .int .u64 b]] w fun e w' => e = .returned (.bool true) ∧ Below w.heap.size w w' := by
  have hme := fun (v : Value) (W : World) => meth72 v W
  have hdo : ∀ W, Below w.heap.size w W → Calls Try.prog 52 #[.agg #[], .agg #[.int .u64 ta, .int .u64 tb, .int .u64 tc], .agg #[.int .u64 a, .int .u64 b]] W fun e w' => e = .returned (.tuple #[.agg #[.int .u64 ta, .int .u64 tb, .int .u64 tc], .agg #[.int .u64 a, .int .u64 b], .bool true]) ∧ Below W.heap.size W w' := fun W hb => do_join W ta tb tc a b
  have href : ∀ W, Below w.heap.size w W → Calls Try.prog 31 #[nodeV 4 ins outs A l.length c ⟨pa, pb, pc⟩ bd cv st, .agg #[.int .u64 ta, .int .u64 tb, .int .u64 tc], .agg #[.int .u64 a, .int .u64 b]] W fun e w' => e = .returned (.tuple #[.agg #[.int .u64 ta, .int .u64 tb, .int .u64 tc], .agg #[.int .u64 a, .int .u64 b], .bool true]) ∧ Below W.heap.size W w' := fun W hb => rdo_join (hr.below hb) hc ins outs pa pb pc bd cv st h1 ta tb tc a b 
  obtain ⟨n, hn⟩ : ∃ n, n = l.length := ⟨_, rfl⟩
  rw [← hn] at href ⊢
  clear hr hc hn h1  
  obtain ⟨nb, hnb⟩ : ∃ nb, nb = w.heap.size := ⟨_, rfl⟩
  simp only [nodeV] at href ⊢
  go_enter Try.func23, Try.ntmps23
  go_upto_region 1 with fail
  have k0 := D2.start (w := w) (rc := (ndc 4 ins outs A n c pa pb pc bd cv st)) (ta := ta) (tb := tb) (tc := tc) (a := a) (b := b)
  simp only [ndc] at k0
  generalize (w.alloc (.cells #[.int .i64 4, .int .i64 ins, .int .i64 outs, .slice A n c, .int .u64 pa, .int .u64 pb, .int .u64 pc, .int .u64 bd, cv, .bool st] 47)).alloc (.cells #[.int .u64 ta, .int .u64 tb, .int .u64 tc, .int .u64 a, .int .u64 b] 60) = W0 at *
  rw [← hnb] at k0 hdo href ⊢
  have HNB := Lib.hid hnb
  clear hnb
  obtain ⟨y0, y1, y2, y3, y4⟩ := k0.cells
  go_cut [7, 8, 9] (fun s7 s8 s9 wx => ∃ nu, D2 w wx nb (ndc 4 ins outs A n c pa pb pc bd cv st) ta tb tc a b ∧ nb + 2 ≤ nu ∧ s7 = .pointer (some ⟨nu, 0, none⟩) ∧ s8 = .pointer (some ⟨nu + 1, 0, none⟩) ∧ s9 = .bool true ∧ wx.heap[nu]? = some (.cells #[.int .u64 ta, .int .u64 tb, .int .u64 tc] 58 (0, 0)) ∧ wx.heap[nu + 1]? = some (.cells #[.int .u64 a, .int .u64 b] 25 (0, 0)))
  case first =>
    go_wp2_with (go_at_call 52; refine (hdo _ k0.be).mono ?_; rintro e w4 ⟨rfl, b4⟩)
    have k4 := k0.then b4
    have ba : Below w4.heap.size w4 ((w4.alloc (.cells #[.int .u64 ta, .int .u64 tb, .int .u64 tc] 58)).alloc (.cells #[.int .u64 a, .int .u64 b] 25)) := ((Below.refl _ _).alloc (Nat.le_refl _) _).alloc (by simp) _
    go_meet
    exact ⟨w4.heap.size, k4.then ba, k4.lt, rfl, rfl, rfl, blk_alloc (alloc_at rfl) _, alloc_at (by simp)⟩
  case rest =>
  obtain ⟨nu, k5, hnu, rfl, rfl, rfl, xu, xs⟩ := hcut
  clear k0 y0 y1 y2 y3 y4 hdo
  obtain ⟨W5, hW5⟩ : ∃ W, W = wc := ⟨_, rfl⟩
  subst hW5
  go_upto_region 2 with fail
  obtain ⟨y0, y1, y2, y3, y4⟩ := k5.cells
  have ⟨z0, z1, z2, z3, z4, z5, z6, z7, z8, z9⟩ := D2.node k5
  go_cut [10, 11, 12] (fun s10 s11 s12 wx => ∃ nv, D2 w wx nb (ndc 4 ins outs A n c pa pb pc bd cv st) ta tb tc a b ∧ s10 = .pointer (some ⟨nv, 0, none⟩) ∧ s11 = .pointer (some ⟨nv + 1, 0, none⟩) ∧ s12 = .bool true ∧ wx.heap[nv]? = some (.cells #[.int .u64 ta, .int .u64 tb, .int .u64 tc] 58 (0, 0)) ∧ wx.heap[nv + 1]? = some (.cells #[.int .u64 a, .int .u64 b] 25 (0, 0)) ∧ wx.heap[nu]? = some (.cells #[.int .u64 ta, .int .u64 tb, .int .u64 tc] 58 (0, 0)) ∧ wx.heap[nu + 1]? = some (.cells #[.int .u64 a, .int .u64 b] 25 (0, 0)))
  case first =>
    go_wp2_with (go_at_call 31; refine (href _ k5.be).mono ?_; rintro e w6 ⟨rfl, b6⟩)
    have k6 := k5.then b6
    have ba : Below w6.heap.size w6 ((w6.alloc (.cells #[.int .u64 ta, .int .u64 tb, .int .u64 tc] 58)).alloc (.cells #[.int .u64 a, .int .u64 b] 25)) := ((Below.refl _ _).alloc (Nat.le_refl _) _).alloc (by simp) _
    go_meet
    exact ⟨w6.heap.size, k6.then ba, rfl, rfl, rfl, blk_alloc (alloc_at rfl) _, alloc_at (by simp), blk_below (blk_below xu b6) ba, blk_below (blk_below xs b6) ba⟩
  case rest =>
  obtain ⟨nv, k7, rfl, rfl, rfl, xv, xq, xu2, xs2⟩ := hcut
  clear k5 y0 y1 y2 y3 y4 z0 z1 z2 z3 z4 z5 z6 z7 z8 z9 xu xs href
  obtain ⟨W7, hW7⟩ : ∃ W, W = wc := ⟨_, rfl⟩
  subst hW7
  have u0 := blk_cell xu2 0
  have u1 := blk_cell xu2 1
  have u2 := blk_cell xu2 2
  have s0 := blk_cell xs2 0
  have s1 := blk_cell xs2 1
  have v0 := blk_cell xv 0
  have v1 := blk_cell xv 1
  have v2 := blk_cell xv 2
  have q0 := blk_cell xq 0
  have q1 := blk_cell xq 1
  simp at u0 u1 u2 s0 s1 v0 v1 v2 q0 q1
  have HK := Lib.hid k7.be
  clear k7 xu2 xs2 xv xq
  go_wp2_with fail
  go_ret
  exact ⟨rfl, by rw [← HNB.out]; exact HK.out⟩
end Go.Proofs.Ytfbejjobejdenaa.PCodeSays
