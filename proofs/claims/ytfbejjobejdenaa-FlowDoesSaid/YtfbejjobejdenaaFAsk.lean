/- The flows: an operator's answer is the document's: does. -/
import Derived.Test.YtfbejjobejdenaaFRef2
set_option linter.unusedVariables false
set_option linter.unusedSimpArgs false
namespace Go.Proofs.Ytfbejjobejdenaa.PCodeSays
open Go.RowKit Go.Proofs.YtfbejjobejdenaaW.PrintWords Go.Proofs.YtfbejjobejdenaaW.PrintLast Go.Proofs.YtfbejjobejdenaaW.PrintMore
theorem meth70 (v : Value) (W : World) : Sem.run Try.prog (method 202 70 v "Do") W = .ok (50, v) W := by kernel_rfl
theorem meth71 (v : Value) (W : World) : Sem.run Try.prog (method 202 71 v "Do") W = .ok (51, v) W := by kernel_rfl
theorem meth72 (v : Value) (W : World) : Sem.run Try.prog (method 202 72 v "Do") W = .ok (52, v) W := by kernel_rfl
theorem meth74 (v : Value) (W : World) : Sem.run Try.prog (method 202 74 v "Do") W = .ok (53, v) W := by kernel_rfl
/-- The two blocks that does begins with: the node, what is asked. -/
structure D2 (w wx : World) (nb : Nat) (rc : Array Value) (ta tb tc a b : Int) : Prop where
  be : Below nb w wx
  lt : nb + 2 ≤ wx.heap.size
  x0 : wx.heap[nb]? = some (.cells rc 47 (0, 0))
  x1 : wx.heap[nb + 1]? = some (.cells #[.int .u64 ta, .int .u64 tb, .int .u64 tc, .int .u64 a, .int .u64 b] 60 (0, 0))
abbrev ndc (kd ins outs : Int) (A : Option Addr) (n c : Nat) (pa pb pc bd : Int) (cv : Value) (st : Bool) : Array Value := #[.int .i64 kd, .int .i64 ins, .int .i64 outs, .slice A n c, .int .u64 pa, .int .u64 pb, .int .u64 pc, .int .u64 bd, cv, .bool st]
section
variable {w wx wy : World} {nb : Nat} {rc : Array Value} {ta tb tc a b : Int}
theorem D2.then (h : D2 w wx nb rc ta tb tc a b) (k : Below wx.heap.size wx wy) : D2 w wy nb rc ta tb tc a b :=
  ⟨h.be.trans (k.mono (by have := h.lt; omega)), Nat.le_trans h.lt k.size, blk_below h.x0 k, blk_below h.x1 k⟩
theorem D2.start : D2 w ((w.alloc (.cells rc 47)).alloc (.cells #[.int .u64 ta, .int .u64 tb, .int .u64 tc, .int .u64 a, .int .u64 b] 60)) w.heap.size rc ta tb tc a b := by
  refine ⟨(((Below.refl _ _).alloc (Nat.le_refl _) _).alloc (by simp) _), by simp, ?_, ?_⟩
  · exact blk_alloc (alloc_at rfl) _
  · exact alloc_at (by simp)
theorem D2.cells (h : D2 w wx nb rc ta tb tc a b) : wx.cell? ⟨nb + 1, 0, none⟩ = some (.int .u64 ta) ∧ wx.cell? ⟨nb + 1, 1, none⟩ = some (.int .u64 tb) ∧ wx.cell? ⟨nb + 1, 2, none⟩ = some (.int .u64 tc) ∧
    wx.cell? ⟨nb + 1, 3, none⟩ = some (.int .u64 a) ∧ wx.cell? ⟨nb + 1, 4, none⟩ = some (.int .u64 b) :=
  ⟨blk_cell h.x1 0, blk_cell h.x1 1, blk_cell h.x1 2, blk_cell h.x1 3, blk_cell h.x1 4⟩
end
section
variable {w wx : World} {nb : Nat} {kd ins outs pa pb pc bd : Int} {A : Option Addr} {n c : Nat} {cv : Value} {st : Bool} {ta tb tc a b : Int}
theorem D2.node (h : D2 w wx nb (ndc kd ins outs A n c pa pb pc bd cv st) ta tb tc a b) : wx.cell? ⟨nb, 0, none⟩ = some (.int .i64 kd) ∧ wx.cell? ⟨nb, 1, none⟩ = some (.int .i64 ins) ∧ wx.cell? ⟨nb, 2, none⟩ = some (.int .i64 outs) ∧ wx.cell? ⟨nb, 3, none⟩ = some (.slice A n c) ∧
    wx.cell? ⟨nb, 4, none⟩ = some (.int .u64 pa) ∧ wx.cell? ⟨nb, 5, none⟩ = some (.int .u64 pb) ∧ wx.cell? ⟨nb, 6, none⟩ = some (.int .u64 pc) ∧ wx.cell? ⟨nb, 7, none⟩ = some (.int .u64 bd) ∧ wx.cell? ⟨nb, 8, none⟩ = some cv ∧ wx.cell? ⟨nb, 9, none⟩ = some (.bool st) :=
  ⟨blk_cell h.x0 0, blk_cell h.x0 1, blk_cell h.x0 2, blk_cell h.x0 3, blk_cell h.x0 4, blk_cell h.x0 5, blk_cell h.x0 6, blk_cell h.x0 7, blk_cell h.x0 8, blk_cell h.x0 9⟩
end
set_option maxRecDepth 100000 in
set_option maxHeartbeats 4000000 in
theorem ask_map {w : World} {A : Option Addr} {c : Nat} {l : List S29} (hr : Row w A l) (hc : l.length ≤ c) (A2 : Option Addr) (c2 : Nat) (hr2 : Row w A2 l) (hc2 : l.length ≤ c2) (ins outs pa pb pc bd : Int) (cv : Value) (st : Bool) (h1 : cv.oneCell' = true) (ta tb tc a b : Int) (a1 b1 : Int) (hm : mapP l (a, b) = (a1, b1)) :
    Calls Try.prog 23 #[.iface 70 (.agg #[.slice A2 l.length c2]), nodeV 2 ins outs A l.length c ⟨pa, pb, pc⟩ bd cv st, .agg #[.int .u64 ta, .int .u64 tb, .int .u64 tc, .int .u64 a, .int .u64 b]] w fun e w' => e = .returned (.bool true) ∧ Below w.heap.size w w' := by
  have hme := fun (v : Value) (W : World) => meth70 v W
  have hdo : ∀ W, Below w.heap.size w W → Calls Try.prog 50 #[.agg #[.slice A2 l.length c2], .agg #[.int .u64 ta, .int .u64 tb, .int .u64 tc], .agg #[.int .u64 a, .int .u64 b]] W fun e w' => e = .returned (.tuple #[.agg #[.int .u64 ta, .int .u64 tb, .int .u64 tc], .agg #[.int .u64 a1, .int .u64 b1], .bool true]) ∧ Below W.heap.size W w' := fun W hb => do_map (hr2.below hb) hc2 ta tb tc a b a1 b1 hm
  have href : ∀ W, Below w.heap.size w W → Calls Try.prog 31 #[nodeV 2 ins outs A l.length c ⟨pa, pb, pc⟩ bd cv st, .agg #[.int .u64 ta, .int .u64 tb, .int .u64 tc], .agg #[.int .u64 a, .int .u64 b]] W fun e w' => e = .returned (.tuple #[.agg #[.int .u64 ta, .int .u64 tb, .int .u64 tc], .agg #[.int .u64 a1, .int .u64 b1], .bool true]) ∧ Below W.heap.size W w' := fun W hb => rdo_map (hr.below hb) hc ins outs pa pb pc bd cv st h1 ta tb tc a b a1 b1 hm
  obtain ⟨n, hn⟩ : ∃ n, n = l.length := ⟨_, rfl⟩
  rw [← hn] at hdo href ⊢
  clear hr hc hn h1 hr2 hc2 hm
  obtain ⟨nb, hnb⟩ : ∃ nb, nb = w.heap.size := ⟨_, rfl⟩
  simp only [nodeV] at href ⊢
  go_enter Try.func23, Try.ntmps23
  go_upto_region 1 with fail
  have k0 := D2.start (w := w) (rc := (ndc 2 ins outs A n c pa pb pc bd cv st)) (ta := ta) (tb := tb) (tc := tc) (a := a) (b := b)
  simp only [ndc] at k0
  generalize (w.alloc (.cells #[.int .i64 2, .int .i64 ins, .int .i64 outs, .slice A n c, .int .u64 pa, .int .u64 pb, .int .u64 pc, .int .u64 bd, cv, .bool st] 47)).alloc (.cells #[.int .u64 ta, .int .u64 tb, .int .u64 tc, .int .u64 a, .int .u64 b] 60) = W0 at *
  rw [← hnb] at k0 hdo href ⊢
  have HNB := Lib.hid hnb
  clear hnb
  obtain ⟨y0, y1, y2, y3, y4⟩ := k0.cells
  go_cut [7, 8, 9] (fun s7 s8 s9 wx => ∃ nu, D2 w wx nb (ndc 2 ins outs A n c pa pb pc bd cv st) ta tb tc a b ∧ nb + 2 ≤ nu ∧ s7 = .pointer (some ⟨nu, 0, none⟩) ∧ s8 = .pointer (some ⟨nu + 1, 0, none⟩) ∧ s9 = .bool true ∧ wx.heap[nu]? = some (.cells #[.int .u64 ta, .int .u64 tb, .int .u64 tc] 58 (0, 0)) ∧ wx.heap[nu + 1]? = some (.cells #[.int .u64 a1, .int .u64 b1] 25 (0, 0)))
  case first =>
    go_wp2_with (go_at_call 50; refine (hdo _ k0.be).mono ?_; rintro e w4 ⟨rfl, b4⟩)
    have k4 := k0.then b4
    have ba : Below w4.heap.size w4 ((w4.alloc (.cells #[.int .u64 ta, .int .u64 tb, .int .u64 tc] 58)).alloc (.cells #[.int .u64 a1, .int .u64 b1] 25)) := ((Below.refl _ _).alloc (Nat.le_refl _) _).alloc (by simp) _
    go_meet
    exact ⟨w4.heap.size, k4.then ba, k4.lt, rfl, rfl, rfl, blk_alloc (alloc_at rfl) _, alloc_at (by simp)⟩
  case rest =>
  obtain ⟨nu, k5, hnu, rfl, rfl, rfl, xu, xs⟩ := hcut
  clear k0 y0 y1 y2 y3 y4 hdo
  obtain ⟨W5, hW5⟩ : ∃ W, W = wc := ⟨_, rfl⟩
  subst hW5
  go_upto_region 2 with fail
  obtain ⟨y0, y1, y2, y3, y4⟩ := k5.cells
  have ⟨z0, z1, z2, z3, z4, z5, z6, z7, z8, z9⟩ := D2.node k5
  go_cut [10, 11, 12] (fun s10 s11 s12 wx => ∃ nv, D2 w wx nb (ndc 2 ins outs A n c pa pb pc bd cv st) ta tb tc a b ∧ s10 = .pointer (some ⟨nv, 0, none⟩) ∧ s11 = .pointer (some ⟨nv + 1, 0, none⟩) ∧ s12 = .bool true ∧ wx.heap[nv]? = some (.cells #[.int .u64 ta, .int .u64 tb, .int .u64 tc] 58 (0, 0)) ∧ wx.heap[nv + 1]? = some (.cells #[.int .u64 a1, .int .u64 b1] 25 (0, 0)) ∧ wx.heap[nu]? = some (.cells #[.int .u64 ta, .int .u64 tb, .int .u64 tc] 58 (0, 0)) ∧ wx.heap[nu + 1]? = some (.cells #[.int .u64 a1, .int .u64 b1] 25 (0, 0)))
  case first =>
    go_wp2_with (go_at_call 31; refine (href _ k5.be).mono ?_; rintro e w6 ⟨rfl, b6⟩)
    have k6 := k5.then b6
    have ba : Below w6.heap.size w6 ((w6.alloc (.cells #[.int .u64 ta, .int .u64 tb, .int .u64 tc] 58)).alloc (.cells #[.int .u64 a1, .int .u64 b1] 25)) := ((Below.refl _ _).alloc (Nat.le_refl _) _).alloc (by simp) _
    go_meet
    exact ⟨w6.heap.size, k6.then ba, rfl, rfl, rfl, blk_alloc (alloc_at rfl) _, alloc_at (by simp), blk_below (blk_below xu b6) ba, blk_below (blk_below xs b6) ba⟩
  case rest =>
  obtain ⟨nv, k7, rfl, rfl, rfl, xv, xq, xu2, xs2⟩ := hcut
  clear k5 y0 y1 y2 y3 y4 z0 z1 z2 z3 z4 z5 z6 z7 z8 z9 xu xs href
  obtain ⟨W7, hW7⟩ : ∃ W, W = wc := ⟨_, rfl⟩
  subst hW7
  have u0 := blk_cell xu2 0
  have u1 := blk_cell xu2 1
  have u2 := blk_cell xu2 2
  have s0 := blk_cell xs2 0
  have s1 := blk_cell xs2 1
  have v0 := blk_cell xv 0
  have v1 := blk_cell xv 1
  have v2 := blk_cell xv 2
  have q0 := blk_cell xq 0
  have q1 := blk_cell xq 1
  simp at u0 u1 u2 s0 s1 v0 v1 v2 q0 q1
  have HK := Lib.hid k7.be
  clear k7 xu2 xs2 xv xq
  go_wp2_with fail
  go_ret
  exact ⟨rfl, by rw [← HNB.out]; exact HK.out⟩
set_option maxRecDepth 100000 in
set_option maxHeartbeats 4000000 in
theorem ask_ft {w : World} {A : Option Addr} {c : Nat} {l : List S29} (hr : Row w A l) (hc : l.length ≤ c) (A2 : Option Addr) (c2 : Nat) (hr2 : Row w A2 l) (hc2 : l.length ≤ c2) (ins outs pa pb pc bd : Int) (cv : Value) (st : Bool) (h1 : cv.oneCell' = true) (ta tb tc a b : Int) (hm : passP l (a, b) = true) :
    Calls Try.prog 23 #[.iface 71 (.agg #[.slice A2 l.length c2]), nodeV 3 ins outs A l.length c ⟨pa, pb, pc⟩ bd cv st, .agg #[.int .u64 ta, .int .u64 tb, .int .u64 tc, .int .u64 a, .int .u64 b]] w fun e w' => e = .returned (.bool true) ∧ Below w.heap.size w w' := by
  have hme := fun (v : Value) (W : World) => meth71 v W
  have hdo : ∀ W, Below w.heap.size w W → Calls Try.prog 51 #[.agg #[.slice A2 l.length c2], .agg #[.int .u64 ta, .int .u64 tb, .int .u64 tc], .agg #[.int .u64 a, .int .u64 b]] W fun e w' => e = .returned (.tuple #[.agg #[.int .u64 ta, .int .u64 tb, .int .u64 tc], .agg #[.int .u64 a, .int .u64 b], .bool true]) ∧ Below W.heap.size W w' := fun W hb => do_filter_true (hr2.below hb) hc2 ta tb tc a b hm
  have href : ∀ W, Below w.heap.size w W → Calls Try.prog 31 #[nodeV 3 ins outs A l.length c ⟨pa, pb, pc⟩ bd cv st, .agg #[.int .u64 ta, .int .u64 tb, .int .u64 tc], .agg #[.int .u64 a, .int .u64 b]] W fun e w' => e = .returned (.tuple #[.agg #[.int .u64 ta, .int .u64 tb, .int .u64 tc], .agg #[.int .u64 a, .int .u64 b], .bool true]) ∧ Below W.heap.size W w' := fun W hb => rdo_filter_true (hr.below hb) hc ins outs pa pb pc bd cv st h1 ta tb tc a b hm
  obtain ⟨n, hn⟩ : ∃ n, n = l.length := ⟨_, rfl⟩
  rw [← hn] at hdo href ⊢
  clear hr hc hn h1 hr2 hc2 hm
  obtain ⟨nb, hnb⟩ : ∃ nb, nb = w.heap.size := ⟨_, rfl⟩
  simp only [nodeV] at href ⊢
  go_enter Try.func23, Try.ntmps23
  go_upto_region 1 with fail
  have k0 := D2.start (w := w) (rc := (ndc 3 ins outs A n c pa pb pc bd cv st)) (ta := ta) (tb := tb) (tc := tc) (a := a) (b := b)
  simp only [ndc] at k0
  generalize (w.alloc (.cells #[.int .i64 3, .int .i64 ins, .int .i64 outs, .slice A n c, .int .u64 pa, .int .u64 pb, .int .u64 pc, .int .u64 bd, cv, .bool st] 47)).alloc (.cells #[.int .u64 ta, .int .u64 tb, .int .u64 tc, .int .u64 a, .int .u64 b] 60) = W0 at *
  rw [← hnb] at k0 hdo href ⊢
  have HNB := Lib.hid hnb
  clear hnb
  obtain ⟨y0, y1, y2, y3, y4⟩ := k0.cells
  go_cut [7, 8, 9] (fun s7 s8 s9 wx => ∃ nu, D2 w wx nb (ndc 3 ins outs A n c pa pb pc bd cv st) ta tb tc a b ∧ nb + 2 ≤ nu ∧ s7 = .pointer (some ⟨nu, 0, none⟩) ∧ s8 = .pointer (some ⟨nu + 1, 0, none⟩) ∧ s9 = .bool true ∧ wx.heap[nu]? = some (.cells #[.int .u64 ta, .int .u64 tb, .int .u64 tc] 58 (0, 0)) ∧ wx.heap[nu + 1]? = some (.cells #[.int .u64 a, .int .u64 b] 25 (0, 0)))
  case first =>
    go_wp2_with (go_at_call 51; refine (hdo _ k0.be).mono ?_; rintro e w4 ⟨rfl, b4⟩)
    have k4 := k0.then b4
    have ba : Below w4.heap.size w4 ((w4.alloc (.cells #[.int .u64 ta, .int .u64 tb, .int .u64 tc] 58)).alloc (.cells #[.int .u64 a, .int .u64 b] 25)) := ((Below.refl _ _).alloc (Nat.le_refl _) _).alloc (by simp) _
    go_meet
    exact ⟨w4.heap.size, k4.then ba, k4.lt, rfl, rfl, rfl, blk_alloc (alloc_at rfl) _, alloc_at (by simp)⟩
  case rest =>
  obtain ⟨nu, k5, hnu, rfl, rfl, rfl, xu, xs⟩ := hcut
  clear k0 y0 y1 y2 y3 y4 hdo
  obtain ⟨W5, hW5⟩ : ∃ W, W = wc := ⟨_, rfl⟩
  subst hW5
  go_upto_region 2 with fail
  obtain ⟨y0, y1, y2, y3, y4⟩ := k5.cells
  have ⟨z0, z1, z2, z3, z4, z5, z6, z7, z8, z9⟩ := D2.node k5
  go_cut [10, 11, 12] (fun s10 s11 s12 wx => ∃ nv, D2 w wx nb (ndc 3 ins outs A n c pa pb pc bd cv st) ta tb tc a b ∧ s10 = .pointer (some ⟨nv, 0, none⟩) ∧ s11 = .pointer (some ⟨nv + 1, 0, none⟩) ∧ s12 = .bool true ∧ wx.heap[nv]? = some (.cells #[.int .u64 ta, .int .u64 tb, .int .u64 tc] 58 (0, 0)) ∧ wx.heap[nv + 1]? = some (.cells #[.int .u64 a, .int .u64 b] 25 (0, 0)) ∧ wx.heap[nu]? = some (.cells #[.int .u64 ta, .int .u64 tb, .int .u64 tc] 58 (0, 0)) ∧ wx.heap[nu + 1]? = some (.cells #[.int .u64 a, .int .u64 b] 25 (0, 0)))
  case first =>
    go_wp2_with (go_at_call 31; refine (href _ k5.be).mono ?_; rintro e w6 ⟨rfl, b6⟩)
    have k6 := k5.then b6
    have ba : Below w6.heap.size w6 ((w6.alloc (.cells #[.int .u64 ta, .int .u64 tb, .int .u64 tc] 58)).alloc (.cells #[.int .u64 a, .int .u64 b] 25)) := ((Below.refl _ _).alloc (Nat.le_refl _) _).alloc (by simp) _
    go_meet
    exact ⟨w6.heap.size, k6.then ba, rfl, rfl, rfl, blk_alloc (alloc_at rfl) _, alloc_at (by simp), blk_below (blk_below xu b6) ba, blk_below (blk_below xs b6) ba⟩
  case rest =>
  obtain ⟨nv, k7, rfl, rfl, rfl, xv, xq, xu2, xs2⟩ := hcut
  clear k5 y0 y1 y2 y3 y4 z0 z1 z2 z3 z4 z5 z6 z7 z8 z9 xu xs href
  obtain ⟨W7, hW7⟩ : ∃ W, W = wc := ⟨_, rfl⟩
  subst hW7
  have u0 := blk_cell xu2 0
  have u1 := blk_cell xu2 1
  have u2 := blk_cell xu2 2
  have s0 := blk_cell xs2 0
  have s1 := blk_cell xs2 1
  have v0 := blk_cell xv 0
  have v1 := blk_cell xv 1
  have v2 := blk_cell xv 2
  have q0 := blk_cell xq 0
  have q1 := blk_cell xq 1
  simp at u0 u1 u2 s0 s1 v0 v1 v2 q0 q1
  have HK := Lib.hid k7.be
  clear k7 xu2 xs2 xv xq
  go_wp2_with fail
  go_ret
  exact ⟨rfl, by rw [← HNB.out]; exact HK.out⟩
end Go.Proofs.Ytfbejjobejdenaa.PCodeSays
