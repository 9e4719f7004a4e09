/- The flows: the walk of FlowGoes. -/
import Derived.Test.YtfbejjobejdenaaFTaken
set_option linter.unusedVariables false
set_option linter.unusedSimpArgs false
namespace Go.Proofs.Ytfbejjobejdenaa.PCodeSays
open Go.RowKit Go.Proofs.YtfbejjobejdenaaW.PrintWords Go.Proofs.YtfbejjobejdenaaW.PrintLast Go.Proofs.YtfbejjobejdenaaW.PrintMore
theorem meth70 (v : Value) (W : World) : Sem.run Try.prog (method 202 70 v "Do") W = .ok (50, v) W := by kernel_rfl
theorem meth71 (v : Value) (W : World) : Sem.run Try.prog (method 202 71 v "Do") W = .ok (51, v) W := by kernel_rfl
theorem meth72 (v : Value) (W : World) : Sem.run Try.prog (method 202 72 v "Do") W = .ok (52, v) W := by kernel_rfl
theorem meth74 (v : Value) (W : World) : Sem.run Try.prog (method 202 74 v "Do") W = .ok (53, v) W := by kernel_rfl
/-- The three blocks that FlowGoes begins with: the node, the time, the record. -/
structure D3 (w wx : World) (nb : Nat) (rc : Array Value) (ta tb tc a b : Int) : Prop where
  be : Below nb w wx
  lt : nb + 3 ≤ wx.heap.size
  x0 : wx.heap[nb]? = some (.cells rc 47 (0, 0))
  x1 : wx.heap[nb + 1]? = some (.cells #[.int .u64 ta, .int .u64 tb, .int .u64 tc] 58 (0, 0))
  x2 : wx.heap[nb + 2]? = some (.cells #[.int .u64 a, .int .u64 b] 25 (0, 0))
section
variable {w wx wy : World} {nb : Nat} {rc : Array Value} {ta tb tc a b : Int}
theorem D3.then (h : D3 w wx nb rc ta tb tc a b) (k : Below wx.heap.size wx wy) : D3 w wy nb rc ta tb tc a b :=
  ⟨h.be.trans (k.mono (by have := h.lt; omega)), Nat.le_trans h.lt k.size, blk_below h.x0 k, blk_below h.x1 k, blk_below h.x2 k⟩
theorem D3.start : D3 w (((w.alloc (.cells rc 47)).alloc (.cells #[.int .u64 ta, .int .u64 tb, .int .u64 tc] 58)).alloc (.cells #[.int .u64 a, .int .u64 b] 25)) w.heap.size rc ta tb tc a b := by
  refine ⟨((((Below.refl _ _).alloc (Nat.le_refl _) _).alloc (by simp) _).alloc (by simp; omega) _), by simp, ?_, ?_, ?_⟩
  · exact blk_alloc (blk_alloc (alloc_at rfl) _) _
  · exact blk_alloc (alloc_at (by simp)) _
  · exact alloc_at (by simp)
theorem D3.cells (h : D3 w wx nb rc ta tb tc a b) : wx.cell? ⟨nb + 1, 0, none⟩ = some (.int .u64 ta) ∧ wx.cell? ⟨nb + 1, 1, none⟩ = some (.int .u64 tb) ∧ wx.cell? ⟨nb + 1, 2, none⟩ = some (.int .u64 tc) ∧
    wx.cell? ⟨nb + 2, 0, none⟩ = some (.int .u64 a) ∧ wx.cell? ⟨nb + 2, 1, none⟩ = some (.int .u64 b) :=
  ⟨blk_cell h.x1 0, blk_cell h.x1 1, blk_cell h.x1 2, blk_cell h.x2 0, blk_cell h.x2 1⟩
end
section
variable {w wx : World} {nb : Nat} {kd ins outs pa pb pc bd : Int} {A : Option Addr} {n c : Nat} {cv : Value} {st : Bool} {ta tb tc a b : Int}
abbrev ndc (kd ins outs : Int) (A : Option Addr) (n c : Nat) (pa pb pc bd : Int) (cv : Value) (st : Bool) : Array Value := #[.int .i64 kd, .int .i64 ins, .int .i64 outs, .slice A n c, .int .u64 pa, .int .u64 pb, .int .u64 pc, .int .u64 bd, cv, .bool st]
theorem D3.node (h : D3 w wx nb (ndc kd ins outs A n c pa pb pc bd cv st) ta tb tc a b) : wx.cell? ⟨nb, 0, none⟩ = some (.int .i64 kd) ∧ wx.cell? ⟨nb, 1, none⟩ = some (.int .i64 ins) ∧ wx.cell? ⟨nb, 2, none⟩ = some (.int .i64 outs) ∧ wx.cell? ⟨nb, 3, none⟩ = some (.slice A n c) ∧
    wx.cell? ⟨nb, 4, none⟩ = some (.int .u64 pa) ∧ wx.cell? ⟨nb, 5, none⟩ = some (.int .u64 pb) ∧ wx.cell? ⟨nb, 6, none⟩ = some (.int .u64 pc) ∧ wx.cell? ⟨nb, 7, none⟩ = some (.int .u64 bd) ∧ wx.cell? ⟨nb, 8, none⟩ = some cv ∧ wx.cell? ⟨nb, 9, none⟩ = some (.bool st) :=
  ⟨blk_cell h.x0 0, blk_cell h.x0 1, blk_cell h.x0 2, blk_cell h.x0 3, blk_cell h.x0 4, blk_cell h.x0 5, blk_cell h.x0 6, blk_cell h.x0 7, blk_cell h.x0 8, blk_cell h.x0 9⟩
end
section
variable {w : World} {A : Option Addr} {c : Nat} {l : List S29}
theorem new_err (kind ins outs : Int) (p : T3) (bd : Int) (cv : Value) (st : Bool) (hr : Row w A l) (hc : l.length ≤ c) (h1 : cv.oneCell' = true) (hE : newE kind l ≠ 0) (W : World) (hb : Below w.heap.size w W) :
    Calls Try.prog 21 #[nodeV kind ins outs A l.length c p bd cv st] W fun e w' => e = .returned (.tuple #[.nilIface, .int .i64 (newE kind l)]) ∧ Below W.heap.size W w' := by
  refine (new_c kind ins outs p bd cv st (hr.below hb) hc h1).mono ?_
  rintro e w' ⟨v, rfl, b, h⟩
  rcases h with ⟨h, _⟩ | ⟨_, h⟩
  · exact absurd h hE
  · exact ⟨by rw [h], b⟩
theorem new_code (kind ins outs : Int) (p : T3) (bd : Int) (cv : Value) (st : Bool) (hr : Row w A l) (hc : l.length ≤ c) (h1 : cv.oneCell' = true) (T : TypeId) (hk : (kind = 2 ∧ T = 70) ∨ (kind = 3 ∧ T = 71)) (hz : chk kind l = 0) (W : World) (hb : Below w.heap.size w W) :
    Calls Try.prog 21 #[nodeV kind ins outs A l.length c p bd cv st] W fun e w' => ∃ A2 c2, e = .returned (.tuple #[.iface T (.agg #[.slice A2 l.length c2]), .int .i64 0]) ∧ Row w' A2 l ∧ l.length ≤ c2 ∧ Below W.heap.size W w' := by
  have hE : newE kind l = 0 := by
    unfold newE
    rw [if_pos (by omega)]
    exact hz
  refine (new_c kind ins outs p bd cv st (hr.below hb) hc h1).mono ?_
  rintro e w' ⟨v, rfl, b, h⟩
  rcases h with ⟨_, h⟩ | ⟨h, _⟩
  · rcases h with ⟨k, _, A2, c2, h, r2, hc2⟩ | ⟨k, _, A2, c2, h, r2, hc2⟩ | ⟨k, _⟩ | ⟨k, _⟩
    · obtain rfl : T = 70 := by rcases hk with ⟨_, h⟩ | ⟨h, _⟩; exact h; omega
      exact ⟨A2, c2, by rw [h, hE], r2, hc2, b⟩
    · obtain rfl : T = 71 := by rcases hk with ⟨h, _⟩ | ⟨_, h⟩; omega; exact h
      exact ⟨A2, c2, by rw [h, hE], r2, hc2, b⟩
    · omega
    · omega
  · exact absurd hE h
theorem new_join (ins outs : Int) (p : T3) (bd : Int) (cv : Value) (st : Bool) (hr : Row w A l) (hc : l.length ≤ c) (h1 : cv.oneCell' = true) (W : World) (hb : Below w.heap.size w W) :
    Calls Try.prog 21 #[nodeV 4 ins outs A l.length c p bd cv st] W fun e w' => e = .returned (.tuple #[.iface 72 (.agg #[]), .int .i64 0]) ∧ Below W.heap.size W w' := by
  have hE : newE 4 l = 0 := by simp [newE]
  refine (new_c 4 ins outs p bd cv st (hr.below hb) hc h1).mono ?_
  rintro e w' ⟨v, rfl, b, h⟩
  rcases h with ⟨_, h⟩ | ⟨h, _⟩
  · rcases h with ⟨k, _⟩ | ⟨k, _⟩ | ⟨k, h⟩ | ⟨k, _⟩
    · cases k
    · cases k
    · exact ⟨by rw [h, hE], b⟩
    · cases k
  · exact absurd hE h
theorem new_loop (ins outs : Int) (p : T3) (bd : Int) (cv : Value) (st : Bool) (hr : Row w A l) (hc : l.length ≤ c) (h1 : cv.oneCell' = true) (W : World) (hb : Below w.heap.size w W) :
    Calls Try.prog 21 #[nodeV 5 ins outs A l.length c p bd cv st] W fun e w' => e = .returned (.tuple #[.iface 74 (.agg #[.int .u64 p.a, .int .u64 p.b, .int .u64 p.c, .int .u64 bd]), .int .i64 0]) ∧ Below W.heap.size W w' := by
  have hE : newE 5 l = 0 := by simp [newE]
  refine (new_c 5 ins outs p bd cv st (hr.below hb) hc h1).mono ?_
  rintro e w' ⟨v, rfl, b, h⟩
  rcases h with ⟨_, h⟩ | ⟨h, _⟩
  · rcases h with ⟨k, _⟩ | ⟨k, _⟩ | ⟨k, _⟩ | ⟨k, h⟩
    · cases k
    · cases k
    · cases k
    · exact ⟨by rw [h, hE], b⟩
  · exact absurd hE h
end
set_option maxRecDepth 100000 in
set_option maxHeartbeats 4000000 in
theorem goes_err {w : World} {A : Option Addr} {c : Nat} {l : List S29} (hr : Row w A l) (hc : l.length ≤ c) (kind : Int) (ins outs pa pb pc bd : Int) (cv : Value) (st : Bool) (h1 : cv.oneCell' = true) (ta tb tc a b : Int) (hE : newE kind l ≠ 0) :
    Calls Try.prog 7 #[nodeV kind ins outs A l.length c ⟨pa, pb, pc⟩ bd cv st, .agg #[.int .u64 ta, .int .u64 tb, .int .u64 tc], .agg #[.int .u64 a, .int .u64 b]] w fun e w' => e = .returned (.bool true) ∧ Below w.heap.size w w' := by
  have hnew := fun W hb => new_err kind ins outs ⟨pa, pb, pc⟩ bd cv st hr hc h1 hE W hb
  obtain ⟨er, her⟩ : ∃ er, er = newE kind l := ⟨_, rfl⟩
  rw [← her] at hnew hE
  clear her
  have he1 : (er == 0) = false := by simpa using hE
  have he2 : (er != 0) = true := by simpa using hE
  obtain ⟨n, hn⟩ : ∃ n, n = l.length := ⟨_, rfl⟩
  rw [← hn] at hnew ⊢
  have HN := Lib.hid hn
  obtain ⟨nb, hnb⟩ : ∃ nb, nb = w.heap.size := ⟨_, rfl⟩
  clear hr hc hn h1
  simp only [nodeV] at hnew ⊢
  go_enter Try.func7, Try.ntmps7
  go_upto_region 1 with fail
  have k0 := D3.start (w := w) (rc := (ndc kind ins outs A n c pa pb pc bd cv st)) (ta := ta) (tb := tb) (tc := tc) (a := a) (b := b)
  simp only [ndc] at k0
  generalize (((w.alloc (.cells #[.int .i64 kind, .int .i64 ins, .int .i64 outs, .slice A n c, .int .u64 pa, .int .u64 pb, .int .u64 pc, .int .u64 bd, cv, .bool st] 47)).alloc (.cells #[.int .u64 ta, .int .u64 tb, .int .u64 tc] 58)).alloc (.cells #[.int .u64 a, .int .u64 b] 25)) = W0 at *
  rw [← hnb] at k0 hnew ⊢
  have HNB := Lib.hid hnb
  clear hnb
  go_upto_region 3 with (go_at_call 19; refine (taken_c _).mono ?_; rintro e w1 ⟨rfl, b1⟩)
  have k1 := k0.then b1
  clear k0 b1
  have ⟨z0, z1, z2, z3, z4, z5, z6, z7, z8, z9⟩ := D3.node k1
  go_upto_region 4 with (go_at_call 21; refine (hnew _ k1.be).mono ?_; rintro e w2 ⟨rfl, b2⟩)
  have k2 := k1.then b2
  clear z0 z1 z2 z3 z4 z5 z6 z7 z8 z9 k1 b2
  have ⟨z0, z1, z2, z3, z4, z5, z6, z7, z8, z9⟩ := D3.node k2
  go_upto_region 5 with (go_at_call 21; refine (hnew _ k2.be).mono ?_; rintro e w3 ⟨rfl, b3⟩)
  have k3 := k2.then b3
  skip
  clear z0 z1 z2 z3 z4 z5 z6 z7 z8 z9 k2 b3 hnew
  go_quiet (fail)
  go_wp2_with fail
  go_ret
  exact ⟨rfl, by rw [← HNB.out]; exact below_drewN k3.be _⟩
set_option maxRecDepth 100000 in
set_option maxHeartbeats 4000000 in
theorem goes_map {w : World} {A : Option Addr} {c : Nat} {l : List S29} (hr : Row w A l) (hc : l.length ≤ c) (ins outs pa pb pc bd : Int) (cv : Value) (st : Bool) (h1 : cv.oneCell' = true) (ta tb tc a b : Int) (hz : chk 2 l = 0) (a1 b1 : Int) (hm : mapP l (a, b) = (a1, b1)) :
    Calls Try.prog 7 #[nodeV 2 ins outs A l.length c ⟨pa, pb, pc⟩ bd cv st, .agg #[.int .u64 ta, .int .u64 tb, .int .u64 tc], .agg #[.int .u64 a, .int .u64 b]] w fun e w' => e = .returned (.bool true) ∧ Below w.heap.size w w' := by
  have hnew := fun W hb => new_code 2 ins outs ⟨pa, pb, pc⟩ bd cv st hr hc h1 70 (by simp) hz W hb
  have hdo : ∀ (W : World) (A2 : Option Addr) (c2 : Nat), Row W A2 l → l.length ≤ c2 → Calls Try.prog 50 #[.agg #[.slice A2 l.length c2], .agg #[.int .u64 ta, .int .u64 tb, .int .u64 tc], .agg #[.int .u64 a, .int .u64 b]] W fun e w' => e = .returned (.tuple #[.agg #[.int .u64 ta, .int .u64 tb, .int .u64 tc], .agg #[.int .u64 a1, .int .u64 b1], .bool true]) ∧ Below W.heap.size W w' := fun W A2 c2 r2 h2 => do_map r2 h2 ta tb tc a b a1 b1 hm
  obtain ⟨n, hn⟩ : ∃ n, n = l.length := ⟨_, rfl⟩
  rw [← hn] at hnew hdo ⊢
  have HN := Lib.hid hn
  obtain ⟨nb, hnb⟩ : ∃ nb, nb = w.heap.size := ⟨_, rfl⟩
  clear hr hc hn h1 hm hz
  simp only [nodeV] at hnew ⊢
  go_enter Try.func7, Try.ntmps7
  go_upto_region 1 with fail
  have k0 := D3.start (w := w) (rc := (ndc 2 ins outs A n c pa pb pc bd cv st)) (ta := ta) (tb := tb) (tc := tc) (a := a) (b := b)
  simp only [ndc] at k0
  generalize (((w.alloc (.cells #[.int .i64 2, .int .i64 ins, .int .i64 outs, .slice A n c, .int .u64 pa, .int .u64 pb, .int .u64 pc, .int .u64 bd, cv, .bool st] 47)).alloc (.cells #[.int .u64 ta, .int .u64 tb, .int .u64 tc] 58)).alloc (.cells #[.int .u64 a, .int .u64 b] 25)) = W0 at *
  rw [← hnb] at k0 hnew ⊢
  have HNB := Lib.hid hnb
  clear hnb
  go_upto_region 3 with (go_at_call 19; refine (taken_c _).mono ?_; rintro e w1 ⟨rfl, b1⟩)
  have k1 := k0.then b1
  clear k0 b1
  have ⟨z0, z1, z2, z3, z4, z5, z6, z7, z8, z9⟩ := D3.node k1
  go_upto_region 4 with (go_at_call 21; refine (hnew _ k1.be).mono ?_; rintro e w2 ⟨A2, c2, rfl, r2, h2, b2⟩)
  have k2 := k1.then b2
  clear z0 z1 z2 z3 z4 z5 z6 z7 z8 z9 k1 b2
  have ⟨z0, z1, z2, z3, z4, z5, z6, z7, z8, z9⟩ := D3.node k2
  go_upto_region 5 with (go_at_call 21; refine (hnew _ k2.be).mono ?_; rintro e w3 ⟨A3, c3, rfl, r3, h3, b3⟩)
  have k3 := k2.then b3
  have r2 := r2.below b3
  clear z0 z1 z2 z3 z4 z5 z6 z7 z8 z9 k2 b3 hnew
  go_quiet (fail)
  have hme := fun (v : Value) (W : World) => meth70 v W
  have kd := k3.then (below_drewN (Below.refl _ _) nq)
  have rd2 := r2.below (below_drewN (Below.refl _ _) nq)
  have rd3 := r3.below (below_drewN (Below.refl _ _) nq)
  clear k3 r2 r3
  generalize w3.drewN nq = wd at *
  go_upto_region 9 with fail
  obtain ⟨y0, y1, y2, y3, y4⟩ := kd.cells
  go_cut [11, 12, 13] (fun s11 s12 s13 wx => ∃ nu, D3 w wx nb (ndc 2 ins outs A n c pa pb pc bd cv st) ta tb tc a b ∧ nb + 3 ≤ nu ∧ s11 = .pointer (some ⟨nu, 0, none⟩) ∧ s12 = .pointer (some ⟨nu + 1, 0, none⟩) ∧ s13 = .bool true ∧ wx.heap[nu]? = some (.cells #[.int .u64 ta, .int .u64 tb, .int .u64 tc] 58 (0, 0)) ∧ wx.heap[nu + 1]? = some (.cells #[.int .u64 a1, .int .u64 b1] 25 (0, 0)) ∧ Row wx A3 l)
  case first =>
    go_wp2_with (go_at_call 50; refine (hdo _ _ _ rd2 h2).mono ?_; rintro e w4 ⟨rfl, b4⟩)
    have k4 := kd.then b4
    have ba : Below w4.heap.size w4 ((w4.alloc (.cells #[.int .u64 ta, .int .u64 tb, .int .u64 tc] 58)).alloc (.cells #[.int .u64 a1, .int .u64 b1] 25)) := ((Below.refl _ _).alloc (Nat.le_refl _) _).alloc (by simp) _
    go_meet
    exact ⟨w4.heap.size, k4.then ba, k4.lt, rfl, rfl, rfl, blk_alloc (alloc_at rfl) _, alloc_at (by simp), (rd3.below b4).below ba⟩
  case rest =>
  obtain ⟨nu, k5, hnu, rfl, rfl, rfl, xu, xs, r5⟩ := hcut
  clear kd y0 y1 y2 y3 y4 rd2 rd3
  obtain ⟨W5, hW5⟩ : ∃ W, W = wc := ⟨_, rfl⟩
  subst hW5
  go_upto_region 10 with fail
  obtain ⟨y0, y1, y2, y3, y4⟩ := k5.cells
  go_cut [14, 15, 16] (fun s14 s15 s16 wx => ∃ nv, D3 w wx nb (ndc 2 ins outs A n c pa pb pc bd cv st) ta tb tc a b ∧ nb + 3 ≤ nv ∧ s14 = .pointer (some ⟨nv, 0, none⟩) ∧ s15 = .pointer (some ⟨nv + 1, 0, none⟩) ∧ s16 = .bool true ∧ wx.heap[nv]? = some (.cells #[.int .u64 ta, .int .u64 tb, .int .u64 tc] 58 (0, 0)) ∧ wx.heap[nv + 1]? = some (.cells #[.int .u64 a1, .int .u64 b1] 25 (0, 0)) ∧ wx.heap[nu]? = some (.cells #[.int .u64 ta, .int .u64 tb, .int .u64 tc] 58 (0, 0)) ∧ wx.heap[nu + 1]? = some (.cells #[.int .u64 a1, .int .u64 b1] 25 (0, 0)))
  case first =>
    go_wp2_with (go_at_call 50; refine (hdo _ _ _ r5 h3).mono ?_; rintro e w6 ⟨rfl, b6⟩)
    have k6 := k5.then b6
    have ba : Below w6.heap.size w6 ((w6.alloc (.cells #[.int .u64 ta, .int .u64 tb, .int .u64 tc] 58)).alloc (.cells #[.int .u64 a1, .int .u64 b1] 25)) := ((Below.refl _ _).alloc (Nat.le_refl _) _).alloc (by simp) _
    go_meet
    exact ⟨w6.heap.size, k6.then ba, k6.lt, rfl, rfl, rfl, blk_alloc (alloc_at rfl) _, alloc_at (by simp), blk_below (blk_below xu b6) ba, blk_below (blk_below xs b6) ba⟩
  case rest =>
  obtain ⟨nv, k7, hnv, rfl, rfl, rfl, xv, xq, xu2, xs2⟩ := hcut
  clear k5 y0 y1 y2 y3 y4 xu xs hdo r5
  obtain ⟨W7, hW7⟩ : ∃ W, W = wc := ⟨_, rfl⟩
  subst hW7
  obtain ⟨y0, y1, y2, y3, y4⟩ := k7.cells
  have ⟨z0, z1, z2, z3, z4, z5, z6, z7, z8, z9⟩ := D3.node k7
  have u0 := blk_cell xu2 0
  have u1 := blk_cell xu2 1
  have u2 := blk_cell xu2 2
  have s0 := blk_cell xs2 0
  have s1 := blk_cell xs2 1
  have v0 := blk_cell xv 0
  have v1 := blk_cell xv 1
  have v2 := blk_cell xv 2
  have q0 := blk_cell xq 0
  have q1 := blk_cell xq 1
  simp at u0 u1 u2 s0 s1 v0 v1 v2 q0 q1
  have HK := Lib.hid k7.be
  clear k7 xu2 xs2 xv xq z1 z2 z3 z8 z9
  go_wp2_with fail
  go_ret
  exact ⟨rfl, by rw [← HNB.out]; exact HK.out⟩
end Go.Proofs.Ytfbejjobejdenaa.PCodeSays
