/- The flows: what Do answers, of each kind of operators: the contracts. -/
import Derived.Test.YtfbejjobejdenaaFPath
import Derived.Deep.RegionHeld3
set_option linter.unusedVariables false
set_option linter.unusedSimpArgs false
namespace Go.Proofs.Ytfbejjobejdenaa.PCodeSays
open Go.RowKit Go.Proofs.YtfbejjobejdenaaW.PrintWords Go.Proofs.YtfbejjobejdenaaW.PrintLast Go.Proofs.YtfbejjobejdenaaW.PrintMore
/-- One operation of a region taken first, its slot named. -/
theorem take_d {P : Program} {ops : Array Oper} {Q : Exit → Act → World → Prop} {md : Region.Mode} {S : World → Prop} (i d : Nat) {oi : Oper} {v : Value} {fuel : Nat} {listed : Array Bool} {a : Act} {w : World} (hi : ops[i]? = some oi) (hd : oi.dst = some d)
    (hs : Region.noSelect ops = true) (hf : Region.free md ops listed i = true) (hr : (Region.ready md ops listed).contains i = true)
    (hQ : ∀ c a w, Q (.panic c) (a.put (some d) v) w → Q (.panic c) a w) (hw : Region.wanted oi (yielded ops a.tmps) = true) (hy : ∀ w, S w → (execOp a.eval oi).run P w = .ok (.value v) w) (hS : S w)
    (h : wpAnyH P md ops Q S fuel (listed.setIfInBounds i true) (a.put (some d) v) w) : wpAnyH P md ops Q S (fuel + 1) listed a w := by
  refine wpAnyH_take hi hs hf hr ?_ (Or.inl ⟨hw, hy⟩) hS ?_
  · rw [hd]; exact hQ
  · rw [hd]; exact h
/-- One operation of a region that its guard passes over. -/
theorem off_d {P : Program} {ops : Array Oper} {Q : Exit → Act → World → Prop} {md : Region.Mode} {S : World → Prop} (i d : Nat) {oi : Oper} {fuel : Nat} {listed : Array Bool} {a : Act} {w : World} (hi : ops[i]? = some oi) (hd : oi.dst = some d)
    (hs : Region.noSelect ops = true) (hf : Region.free md ops listed i = true) (hr : (Region.ready md ops listed).contains i = true)
    (hQ : ∀ c a w, Q (.panic c) (a.put (some d) undef) w → Q (.panic c) a w) (hw : Region.wanted oi (yielded ops a.tmps) = false) (hS : S w)
    (h : wpAnyH P md ops Q S fuel (listed.setIfInBounds i true) (a.put (some d) undef) w) : wpAnyH P md ops Q S (fuel + 1) listed a w := by
  refine wpAnyH_take hi hs hf hr ?_ (Or.inr ⟨hw, rfl⟩) hS ?_
  · rw [hd]; exact hQ
  · rw [hd]; exact h

/-- The five blocks that Do begins with. -/
structure D5 (w wx : World) (nb : Nat) (rc : Array Value) (ty : TypeId) (ta tb tc a b : Int) : Prop where
  be : Below nb w wx
  lt : nb + 5 ≤ wx.heap.size
  x0 : wx.heap[nb]? = some (.cells rc ty (0, 0))
  x1 : wx.heap[nb + 1]? = some (.cells #[.int .u64 ta, .int .u64 tb, .int .u64 tc] 58 (0, 0))
  x2 : wx.heap[nb + 2]? = some (.cells #[.int .u64 a, .int .u64 b] 25 (0, 0))
  x3 : wx.heap[nb + 3]? = some (.cells #[.int .u64 0, .int .u64 0, .int .u64 0] 58 (0, 0))
  x4 : wx.heap[nb + 4]? = some (.cells #[.int .u64 0, .int .u64 0] 25 (0, 0))
theorem far {w : World} {b i c j : Nat} {v : Value} (h : c ≠ b) : (w.setCell ⟨b, i, none⟩ v).cell? ⟨c, j, none⟩ = w.cell? ⟨c, j, none⟩ := World.cell?_setCell_other w _ _ v (fun e => by injection e with e; omega)
section
variable {w wx wy : World} {nb : Nat} {rc : Array Value} {ty : TypeId} {ta tb tc a b : Int}
theorem D5.then (h : D5 w wx nb rc ty ta tb tc a b) (k : Below wx.heap.size wx wy) : D5 w wy nb rc ty ta tb tc a b :=
  ⟨h.be.trans (k.mono (by have := h.lt; omega)), Nat.le_trans h.lt k.size, blk_below h.x0 k, blk_below h.x1 k, blk_below h.x2 k, blk_below h.x3 k, blk_below h.x4 k⟩
theorem D5.start : D5 w (((((w.alloc (.cells rc ty)).alloc (.cells #[.int .u64 ta, .int .u64 tb, .int .u64 tc] 58)).alloc (.cells #[.int .u64 a, .int .u64 b] 25)).alloc (.cells #[.int .u64 0, .int .u64 0, .int .u64 0] 58)).alloc (.cells #[.int .u64 0, .int .u64 0] 25)) w.heap.size rc ty ta tb tc a b := by
  refine ⟨((((((Below.refl _ _).alloc (Nat.le_refl _) _).alloc (by simp) _).alloc (by simp; omega) _).alloc (by simp; omega) _).alloc (by simp; omega) _), by simp, ?_, ?_, ?_, ?_, ?_⟩
  · exact blk_alloc (blk_alloc (blk_alloc (blk_alloc (alloc_at rfl) _) _) _) _
  · exact blk_alloc (blk_alloc (blk_alloc (alloc_at (by simp)) _) _) _
  · exact blk_alloc (blk_alloc (alloc_at (by simp)) _) _
  · exact blk_alloc (alloc_at (by simp)) _
  · exact alloc_at (by simp)
theorem D5.cells (h : D5 w wx nb rc ty ta tb tc a b) : wx.cell? ⟨nb + 1, 0, none⟩ = some (.int .u64 ta) ∧ wx.cell? ⟨nb + 1, 1, none⟩ = some (.int .u64 tb) ∧ wx.cell? ⟨nb + 1, 2, none⟩ = some (.int .u64 tc) ∧
    wx.cell? ⟨nb + 2, 0, none⟩ = some (.int .u64 a) ∧ wx.cell? ⟨nb + 2, 1, none⟩ = some (.int .u64 b) :=
  ⟨blk_cell h.x1 0, blk_cell h.x1 1, blk_cell h.x1 2, blk_cell h.x2 0, blk_cell h.x2 1⟩
theorem D5.outs (h : D5 w wx nb rc ty ta tb tc a b) : (wx.cell? ⟨nb + 3, 0, none⟩ = some (.int .u64 0) ∧ wx.cell? ⟨nb + 3, 1, none⟩ = some (.int .u64 0) ∧ wx.cell? ⟨nb + 3, 2, none⟩ = some (.int .u64 0) ∧
    wx.cell? ⟨nb + 4, 0, none⟩ = some (.int .u64 0) ∧ wx.cell? ⟨nb + 4, 1, none⟩ = some (.int .u64 0)) ∧
    (wx.frozen? ⟨nb + 3, 0, none⟩ = false ∧ wx.frozen? ⟨nb + 3, 1, none⟩ = false ∧ wx.frozen? ⟨nb + 3, 2, none⟩ = false ∧ wx.frozen? ⟨nb + 4, 0, none⟩ = false ∧ wx.frozen? ⟨nb + 4, 1, none⟩ = false) :=
  ⟨⟨blk_cell h.x3 0, blk_cell h.x3 1, blk_cell h.x3 2, blk_cell h.x4 0, blk_cell h.x4 1⟩, blk_frozen h.x3 0, blk_frozen h.x3 1, blk_frozen h.x3 2, blk_frozen h.x4 0, blk_frozen h.x4 1⟩
end
section
variable {w : World} {A : Option Addr} {c : Nat} {l : List S29}
set_option maxRecDepth 100000 in
set_option maxHeartbeats 1000000 in
theorem do_map (hr : Row w A l) (hc : l.length ≤ c) (ta tb tc a b a1 b1 : Int) (hm : mapP l (a, b) = (a1, b1)) :
    Calls Try.prog 50 #[.agg #[.slice A l.length c], .agg #[.int .u64 ta, .int .u64 tb, .int .u64 tc], .agg #[.int .u64 a, .int .u64 b]] w fun e w' =>
      e = .returned (.tuple #[.agg #[.int .u64 ta, .int .u64 tb, .int .u64 tc], .agg #[.int .u64 a1, .int .u64 b1], .bool true]) ∧ Below w.heap.size w w' := by
  have hcall : ∀ W, Below w.heap.size w W → Calls Try.prog 10 #[.slice A l.length c, .agg #[.int .u64 a, .int .u64 b]] W fun e w' => e = .returned (.agg #[.int .u64 a1, .int .u64 b1]) ∧ Below W.heap.size W w' := fun W hb => by
    have := map_c a b (hr.below hb).C hc
    rw [hm] at this
    exact this
  obtain ⟨n, hn⟩ : ∃ n, n = l.length := ⟨_, rfl⟩
  rw [← hn] at hcall ⊢
  clear hn hm hr hc
  obtain ⟨nb, hnb⟩ : ∃ nb, nb = w.heap.size := ⟨_, rfl⟩
  go_enter Try.func50, Try.ntmps50
  go_upto_region 1 with fail
  have k0 := D5.start (w := w) (rc := #[.slice A n c]) (ty := 70) (ta := ta) (tb := tb) (tc := tc) (a := a) (b := b)
  generalize (((((w.alloc (.cells #[.slice A n c] 70)).alloc (.cells #[.int .u64 ta, .int .u64 tb, .int .u64 tc] 58)).alloc (.cells #[.int .u64 a, .int .u64 b] 25)).alloc (.cells #[.int .u64 0, .int .u64 0, .int .u64 0] 58)).alloc (.cells #[.int .u64 0, .int .u64 0] 25)) = W0 at *
  rw [← hnb] at k0 ⊢
  have HNB := Lib.hid hnb
  clear hnb
  have HC := Lib.hid hcall
  clear hcall
  have x0 := blk_cell k0.x0 0
  simp at x0
  obtain ⟨y0, y1, y2, y3, y4⟩ := k0.cells
  have kd := k0.then ((Below.refl _ _).drew)
  clear k0
  refine wp_region_held_drew (S := fun w' => w'.cell? ⟨nb, 0, none⟩ = some (.slice A n c) ∧ w'.cell? ⟨nb + 1, 0, none⟩ = some (.int .u64 ta) ∧ w'.cell? ⟨nb + 1, 1, none⟩ = some (.int .u64 tb) ∧ w'.cell? ⟨nb + 1, 2, none⟩ = some (.int .u64 tc) ∧ w'.cell? ⟨nb + 2, 0, none⟩ = some (.int .u64 a) ∧ w'.cell? ⟨nb + 2, 1, none⟩ = some (.int .u64 b)) (by kernel_rfl) ⟨x0, y0, y1, y2, y3, y4⟩ (fun hHeld => ?_)
  refine take_d (v := ?_) 0 9 rfl rfl (by kernel_rfl) (by kernel_rfl) (by kernel_rfl) (fun _ _ _ h => h) (by kernel_rfl) ?_ (by assumption) ?_
  rotate_left
  · (intro w hSw; (try dsimp only at hSw); go_simp; first | done | with_reducible rfl)
  try simp only [Act.put, List.setIfInBounds_toArray, List.set_cons_zero, List.set_cons_succ]
  refine take_d (v := ?_) 1 10 rfl rfl (by kernel_rfl) (by kernel_rfl) (by kernel_rfl) (fun _ _ _ h => h) (by kernel_rfl) ?_ (by assumption) ?_
  rotate_left
  · (intro w hSw; (try dsimp only at hSw); go_simp; first | done | with_reducible rfl)
  try simp only [Act.put, List.setIfInBounds_toArray, List.set_cons_zero, List.set_cons_succ]
  refine take_d (v := ?_) 2 11 rfl rfl (by kernel_rfl) (by kernel_rfl) (by kernel_rfl) (fun _ _ _ h => h) (by kernel_rfl) ?_ (by assumption) ?_
  rotate_left
  · (intro w hSw; (try dsimp only at hSw); go_simp; first | done | with_reducible rfl)
  try simp only [Act.put, List.setIfInBounds_toArray, List.set_cons_zero, List.set_cons_succ]
  refine take_d (v := ?_) 3 12 rfl rfl (by kernel_rfl) (by kernel_rfl) (by kernel_rfl) (fun _ _ _ h => h) (by kernel_rfl) ?_ (by assumption) ?_
  rotate_left
  · (intro w hSw; (try dsimp only at hSw); go_simp; first | done | with_reducible rfl)
  try simp only [Act.put, List.setIfInBounds_toArray, List.set_cons_zero, List.set_cons_succ]
  refine wpAnyH_ready (rs := [4]) (by kernel_rfl) (by simp) ?_
  refine AllReadyH.cons rfl (fun K hK => ?_) AllReadyH.nil
  go_simp
  (refine (HC.out _ (HNB.out ▸ kd.be)).mono ?_; rintro e w1 ⟨rfl, bb1⟩; have k1 := kd.then bb1; have x1 := blk_cell k1.x0 0; simp at x1)
  go_wp2_with fail
  refine hK.out _ _ ⟨x1, k1.cells⟩ (fun hHeld => ?_)
  clear hK K
  try simp only [Act.put, List.setIfInBounds_toArray, List.set_cons_zero, List.set_cons_succ]
  clear hHeld y0 y1 y2 y3 y4 x0
  obtain ⟨y0, y1, y2, y3, y4⟩ := k1.cells
  obtain ⟨⟨q0, q1, q2, q3, q4⟩, f0, f1, f2, f3, f4⟩ := k1.outs
  refine wpAnyH_ready (rs := [5]) (by kernel_rfl) (by simp) ?_
  refine AllReadyH.cons rfl (fun K hK => ?_) AllReadyH.nil
  go_simp
  go_wp2_with fail
  refine hK.out _ _ (by refine ⟨?_, ?_, ?_, ?_, ?_, ?_⟩ <;> (repeat rw [far (by omega)]) <;> assumption) (fun hHeld => ?_)
  clear hK K
  try simp only [Act.put, List.setIfInBounds_toArray, List.set_cons_zero, List.set_cons_succ]
  refine wpAnyH_ready (rs := [6]) (by kernel_rfl) (by simp) ?_
  refine AllReadyH.cons rfl (fun K hK => ?_) AllReadyH.nil
  go_simp
  go_wp2_with fail
  refine hK.out _ _ (by refine ⟨?_, ?_, ?_, ?_, ?_, ?_⟩ <;> (repeat rw [far (by omega)]) <;> assumption) (fun hHeld => ?_)
  clear hK K
  try simp only [Act.put, List.setIfInBounds_toArray, List.set_cons_zero, List.set_cons_succ]
  refine wpAnyH_ready (rs := [7]) (by kernel_rfl) (by simp) ?_
  refine AllReadyH.cons rfl (fun K hK => ?_) AllReadyH.nil
  go_simp
  go_wp2_with fail
  refine hK.out _ _ (by refine ⟨?_, ?_, ?_, ?_, ?_, ?_⟩ <;> (repeat rw [far (by omega)]) <;> assumption) (fun hHeld => ?_)
  clear hK K
  try simp only [Act.put, List.setIfInBounds_toArray, List.set_cons_zero, List.set_cons_succ]
  refine wpAnyH_done (by kernel_rfl) ?_ _
  go_wp2_with fail
  exact bodyPost_ret (v := .tuple #[.agg #[.int .u64 ta, .int .u64 tb, .int .u64 tc], .agg #[.int .u64 a1, .int .u64 b1], .bool true]) (by simp [results, Try.results50, go_sem, *]) rfl ⟨rfl, by rw [← HNB.out]; (repeat' (first | exact k1.be | refine Below.setCell ?_ (by (try dsimp only); omega) _)); all_goals exact k1.be⟩
set_option maxRecDepth 100000 in
set_option maxHeartbeats 1000000 in
theorem do_filter_true (hr : Row w A l) (hc : l.length ≤ c) (ta tb tc a b : Int) (hm : passP l (a, b) = true) :
    Calls Try.prog 51 #[.agg #[.slice A l.length c], .agg #[.int .u64 ta, .int .u64 tb, .int .u64 tc], .agg #[.int .u64 a, .int .u64 b]] w fun e w' =>
      e = .returned (.tuple #[.agg #[.int .u64 ta, .int .u64 tb, .int .u64 tc], .agg #[.int .u64 a, .int .u64 b], .bool true]) ∧ Below w.heap.size w w' := by
  have hcall : ∀ W, Below w.heap.size w W → Calls Try.prog 12 #[.slice A l.length c, .agg #[.int .u64 a, .int .u64 b]] W fun e w' => e = .returned (.bool true) ∧ Below W.heap.size W w' := fun W hb => by
    have := pass_c a b (hr.below hb).C hc
    rw [hm] at this
    exact this
  obtain ⟨n, hn⟩ : ∃ n, n = l.length := ⟨_, rfl⟩
  rw [← hn] at hcall ⊢
  clear hn hm hr hc
  obtain ⟨nb, hnb⟩ : ∃ nb, nb = w.heap.size := ⟨_, rfl⟩
  go_enter Try.func51, Try.ntmps51
  go_upto_region 1 with fail
  have k0 := D5.start (w := w) (rc := #[.slice A n c]) (ty := 71) (ta := ta) (tb := tb) (tc := tc) (a := a) (b := b)
  generalize (((((w.alloc (.cells #[.slice A n c] 71)).alloc (.cells #[.int .u64 ta, .int .u64 tb, .int .u64 tc] 58)).alloc (.cells #[.int .u64 a, .int .u64 b] 25)).alloc (.cells #[.int .u64 0, .int .u64 0, .int .u64 0] 58)).alloc (.cells #[.int .u64 0, .int .u64 0] 25)) = W0 at *
  rw [← hnb] at k0 ⊢
  have HNB := Lib.hid hnb
  clear hnb
  have HC := Lib.hid hcall
  clear hcall
  have x0 := blk_cell k0.x0 0
  simp at x0
  obtain ⟨y0, y1, y2, y3, y4⟩ := k0.cells
  go_upto_region 3 with (go_at_call 12; refine (HC.out _ (HNB.out ▸ k0.be)).mono ?_; rintro e w1 ⟨rfl, bb1⟩; have k1 := k0.then bb1; obtain ⟨⟨q0, q1, q2, q3, q4⟩, f0, f1, f2, f3, f4⟩ := k1.outs)
  clear y0 y1 y2 y3 y4 x0 k0 q0 q1 q2 q3 q4 f0 f1 f2 f3 f4
  obtain ⟨y0, y1, y2, y3, y4⟩ := k1.cells
  have kd := k1.then ((Below.refl _ _).drew)
  refine wp_region_held_drew (S := fun w' => w'.cell? ⟨nb + 1, 0, none⟩ = some (.int .u64 ta) ∧ w'.cell? ⟨nb + 1, 1, none⟩ = some (.int .u64 tb) ∧ w'.cell? ⟨nb + 1, 2, none⟩ = some (.int .u64 tc) ∧ w'.cell? ⟨nb + 2, 0, none⟩ = some (.int .u64 a) ∧ w'.cell? ⟨nb + 2, 1, none⟩ = some (.int .u64 b)) (by kernel_rfl) ⟨y0, y1, y2, y3, y4⟩ (fun hHeld => ?_)
  obtain ⟨y0, y1, y2, y3, y4⟩ := kd.cells
  obtain ⟨⟨q0, q1, q2, q3, q4⟩, f0, f1, f2, f3, f4⟩ := kd.outs
  generalize w1.drew = wd at *
  refine take_d (v := ?_) 0 16 rfl rfl (by kernel_rfl) (by kernel_rfl) (by kernel_rfl) (fun _ _ _ h => h) (by kernel_rfl) ?_ (by assumption) ?_
  rotate_left
  · (intro w hSw; (try dsimp only at hSw); go_simp; first | done | with_reducible rfl)
  try simp only [Act.put, List.setIfInBounds_toArray, List.set_cons_zero, List.set_cons_succ]
  refine take_d (v := ?_) 1 17 rfl rfl (by kernel_rfl) (by kernel_rfl) (by kernel_rfl) (fun _ _ _ h => h) (by kernel_rfl) ?_ (by assumption) ?_
  rotate_left
  · (intro w hSw; (try dsimp only at hSw); go_simp; first | done | with_reducible rfl)
  try simp only [Act.put, List.setIfInBounds_toArray, List.set_cons_zero, List.set_cons_succ]
  refine wpAnyH_ready (rs := [2]) (by kernel_rfl) (by simp) ?_
  refine AllReadyH.cons rfl (fun K hK => ?_) AllReadyH.nil
  go_simp
  go_wp2_with fail
  refine hK.out _ _ (by refine ⟨?_, ?_, ?_, ?_, ?_⟩ <;> (repeat rw [far (by omega)]) <;> assumption) (fun hHeld => ?_)
  clear hK K
  try simp only [Act.put, List.setIfInBounds_toArray, List.set_cons_zero, List.set_cons_succ]
  refine wpAnyH_ready (rs := [3]) (by kernel_rfl) (by simp) ?_
  refine AllReadyH.cons rfl (fun K hK => ?_) AllReadyH.nil
  go_simp
  go_wp2_with fail
  refine hK.out _ _ (by refine ⟨?_, ?_, ?_, ?_, ?_⟩ <;> (repeat rw [far (by omega)]) <;> assumption) (fun hHeld => ?_)
  clear hK K
  try simp only [Act.put, List.setIfInBounds_toArray, List.set_cons_zero, List.set_cons_succ]
  refine wpAnyH_ready (rs := [4]) (by kernel_rfl) (by simp) ?_
  refine AllReadyH.cons rfl (fun K hK => ?_) AllReadyH.nil
  go_simp
  go_wp2_with fail
  refine hK.out _ _ (by refine ⟨?_, ?_, ?_, ?_, ?_⟩ <;> (repeat rw [far (by omega)]) <;> assumption) (fun hHeld => ?_)
  clear hK K
  try simp only [Act.put, List.setIfInBounds_toArray, List.set_cons_zero, List.set_cons_succ]
  refine wpAnyH_done (by kernel_rfl) ?_ _
  go_wp2_with fail
  exact bodyPost_ret (v := .tuple #[.agg #[.int .u64 ta, .int .u64 tb, .int .u64 tc], .agg #[.int .u64 a, .int .u64 b], .bool true]) (by simp [results, Try.results51, go_sem, *]) rfl ⟨rfl, by rw [← HNB.out]; (repeat' (first | exact kd.be | refine Below.setCell ?_ (by (try dsimp only); omega) _)); all_goals exact kd.be⟩
set_option maxRecDepth 100000 in
set_option maxHeartbeats 1000000 in
theorem do_filter_false (hr : Row w A l) (hc : l.length ≤ c) (ta tb tc a b : Int) (hm : passP l (a, b) = false) :
    Calls Try.prog 51 #[.agg #[.slice A l.length c], .agg #[.int .u64 ta, .int .u64 tb, .int .u64 tc], .agg #[.int .u64 a, .int .u64 b]] w fun e w' =>
      e = .returned (.tuple #[.agg #[.int .u64 0, .int .u64 0, .int .u64 0], .agg #[.int .u64 0, .int .u64 0], .bool false]) ∧ Below w.heap.size w w' := by
  have hcall : ∀ W, Below w.heap.size w W → Calls Try.prog 12 #[.slice A l.length c, .agg #[.int .u64 a, .int .u64 b]] W fun e w' => e = .returned (.bool false) ∧ Below W.heap.size W w' := fun W hb => by
    have := pass_c a b (hr.below hb).C hc
    rw [hm] at this
    exact this
  obtain ⟨n, hn⟩ : ∃ n, n = l.length := ⟨_, rfl⟩
  rw [← hn] at hcall ⊢
  clear hn hm hr hc
  obtain ⟨nb, hnb⟩ : ∃ nb, nb = w.heap.size := ⟨_, rfl⟩
  go_enter Try.func51, Try.ntmps51
  go_upto_region 1 with fail
  have k0 := D5.start (w := w) (rc := #[.slice A n c]) (ty := 71) (ta := ta) (tb := tb) (tc := tc) (a := a) (b := b)
  generalize (((((w.alloc (.cells #[.slice A n c] 71)).alloc (.cells #[.int .u64 ta, .int .u64 tb, .int .u64 tc] 58)).alloc (.cells #[.int .u64 a, .int .u64 b] 25)).alloc (.cells #[.int .u64 0, .int .u64 0, .int .u64 0] 58)).alloc (.cells #[.int .u64 0, .int .u64 0] 25)) = W0 at *
  rw [← hnb] at k0 ⊢
  have HNB := Lib.hid hnb
  clear hnb
  have HC := Lib.hid hcall
  clear hcall
  have x0 := blk_cell k0.x0 0
  simp at x0
  obtain ⟨y0, y1, y2, y3, y4⟩ := k0.cells
  go_wp2_with (go_at_call 12; refine (HC.out _ (HNB.out ▸ k0.be)).mono ?_; rintro e w1 ⟨rfl, bb1⟩; have k1 := k0.then bb1; obtain ⟨⟨q0, q1, q2, q3, q4⟩, f0, f1, f2, f3, f4⟩ := k1.outs)
  exact bodyPost_ret (v := .tuple #[.agg #[.int .u64 0, .int .u64 0, .int .u64 0], .agg #[.int .u64 0, .int .u64 0], .bool false]) (by simp [results, Try.results51, go_sem, *]) rfl ⟨rfl, by rw [← HNB.out]; (repeat' (first | exact k1.be | refine Below.setCell ?_ (by (try dsimp only); omega) _)); all_goals exact k1.be⟩
end
set_option maxRecDepth 100000 in
set_option maxHeartbeats 1000000 in
theorem do_join (w : World) (ta tb tc a b : Int) :
    Calls Try.prog 52 #[.agg #[], .agg #[.int .u64 ta, .int .u64 tb, .int .u64 tc], .agg #[.int .u64 a, .int .u64 b]] w fun e w' =>
      e = .returned (.tuple #[.agg #[.int .u64 ta, .int .u64 tb, .int .u64 tc], .agg #[.int .u64 a, .int .u64 b], .bool true]) ∧ Below w.heap.size w w' := by
  obtain ⟨nb, hnb⟩ : ∃ nb, nb = w.heap.size := ⟨_, rfl⟩
  go_enter Try.func52, Try.ntmps52
  go_upto_region 1 with fail
  have k0 := D5.start (w := w) (rc := #[]) (ty := 72) (ta := ta) (tb := tb) (tc := tc) (a := a) (b := b)
  generalize (((((w.alloc (.cells #[] 72)).alloc (.cells #[.int .u64 ta, .int .u64 tb, .int .u64 tc] 58)).alloc (.cells #[.int .u64 a, .int .u64 b] 25)).alloc (.cells #[.int .u64 0, .int .u64 0, .int .u64 0] 58)).alloc (.cells #[.int .u64 0, .int .u64 0] 25)) = W0 at *
  rw [← hnb] at k0 ⊢
  have HNB := Lib.hid hnb
  clear hnb
  have kd := k0.then ((Below.refl _ _).drew)
  obtain ⟨y0, y1, y2, y3, y4⟩ := k0.cells
  refine wp_region_held_drew (S := fun w' => w'.cell? ⟨nb + 1, 0, none⟩ = some (.int .u64 ta) ∧ w'.cell? ⟨nb + 1, 1, none⟩ = some (.int .u64 tb) ∧ w'.cell? ⟨nb + 1, 2, none⟩ = some (.int .u64 tc) ∧ w'.cell? ⟨nb + 2, 0, none⟩ = some (.int .u64 a) ∧ w'.cell? ⟨nb + 2, 1, none⟩ = some (.int .u64 b)) (by kernel_rfl) ⟨y0, y1, y2, y3, y4⟩ (fun hHeld => ?_)
  obtain ⟨y0, y1, y2, y3, y4⟩ := kd.cells
  obtain ⟨⟨q0, q1, q2, q3, q4⟩, f0, f1, f2, f3, f4⟩ := kd.outs
  generalize W0.drew = wd at *
  refine take_d (v := ?_) 0 9 rfl rfl (by kernel_rfl) (by kernel_rfl) (by kernel_rfl) (fun _ _ _ h => h) (by kernel_rfl) ?_ (by assumption) ?_
  rotate_left
  · (intro w hSw; (try dsimp only at hSw); go_simp; first | done | with_reducible rfl)
  try simp only [Act.put, List.setIfInBounds_toArray, List.set_cons_zero, List.set_cons_succ]
  refine take_d (v := ?_) 1 10 rfl rfl (by kernel_rfl) (by kernel_rfl) (by kernel_rfl) (fun _ _ _ h => h) (by kernel_rfl) ?_ (by assumption) ?_
  rotate_left
  · (intro w hSw; (try dsimp only at hSw); go_simp; first | done | with_reducible rfl)
  try simp only [Act.put, List.setIfInBounds_toArray, List.set_cons_zero, List.set_cons_succ]
  refine wpAnyH_ready (rs := [2]) (by kernel_rfl) (by simp) ?_
  refine AllReadyH.cons rfl (fun K hK => ?_) AllReadyH.nil
  go_simp
  go_wp2_with fail
  refine hK.out _ _ (by refine ⟨?_, ?_, ?_, ?_, ?_⟩ <;> (repeat rw [far (by omega)]) <;> assumption) (fun hHeld => ?_)
  clear hK K
  try simp only [Act.put, List.setIfInBounds_toArray, List.set_cons_zero, List.set_cons_succ]
  refine wpAnyH_ready (rs := [3]) (by kernel_rfl) (by simp) ?_
  refine AllReadyH.cons rfl (fun K hK => ?_) AllReadyH.nil
  go_simp
  go_wp2_with fail
  refine hK.out _ _ (by refine ⟨?_, ?_, ?_, ?_, ?_⟩ <;> (repeat rw [far (by omega)]) <;> assumption) (fun hHeld => ?_)
  clear hK K
  try simp only [Act.put, List.setIfInBounds_toArray, List.set_cons_zero, List.set_cons_succ]
  refine wpAnyH_ready (rs := [4]) (by kernel_rfl) (by simp) ?_
  refine AllReadyH.cons rfl (fun K hK => ?_) AllReadyH.nil
  go_simp
  go_wp2_with fail
  refine hK.out _ _ (by refine ⟨?_, ?_, ?_, ?_, ?_⟩ <;> (repeat rw [far (by omega)]) <;> assumption) (fun hHeld => ?_)
  clear hK K
  try simp only [Act.put, List.setIfInBounds_toArray, List.set_cons_zero, List.set_cons_succ]
  refine wpAnyH_done (by kernel_rfl) ?_ _
  go_wp2_with fail
  exact bodyPost_ret (v := .tuple #[.agg #[.int .u64 ta, .int .u64 tb, .int .u64 tc], .agg #[.int .u64 a, .int .u64 b], .bool true]) (by simp [results, Try.results52, go_sem, *]) rfl ⟨rfl, by rw [← HNB.out]; (repeat' (first | exact kd.be | refine Below.setCell ?_ (by (try dsimp only); omega) _)); all_goals exact kd.be⟩
end Go.Proofs.Ytfbejjobejdenaa.PCodeSays
