/- CodeJoins: the walk. -/
import Derived.Test.YtfbejjobejdenaaCJoins
set_option linter.unusedVariables false
set_option linter.unusedSimpArgs false
namespace Go.Proofs.Ytfbejjobejdenaa.PCodeSays
open Go.RowKit Go.Proofs.YtfbejjobejdenaaW.PrintWords Go.Proofs.YtfbejjobejdenaaW.PrintLast Go.Proofs.YtfbejjobejdenaaW.PrintMore
attribute [local go_sem high] eqA25 eqA29
theorem chk_vals (k : Int) (l : List S29) : chk k l = 0 ∨ chk k l = 2 ∨ chk k l = 24 ∨ chk k l = 20 := by
  unfold chk chkL
  split
  · split
    · simp
    · split <;> simp
  · simp
/-- One operation of a region taken first, its slot named. -/
theorem take_d {P : Program} {ops : Array Oper} {Q : Exit → Act → World → Prop} {md : Region.Mode} {S : World → Prop} (i d : Nat) {oi : Oper} {v : Value} {fuel : Nat} {listed : Array Bool} {a : Act} {w : World} (hi : ops[i]? = some oi) (hd : oi.dst = some d)
    (hs : Region.noSelect ops = true) (hf : Region.free md ops listed i = true) (hr : (Region.ready md ops listed).contains i = true)
    (hQ : ∀ c a w, Q (.panic c) (a.put (some d) v) w → Q (.panic c) a w) (hw : Region.wanted oi (yielded ops a.tmps) = true) (hy : ∀ w, S w → (execOp a.eval oi).run P w = .ok (.value v) w) (hS : S w)
    (h : wpAnyH P md ops Q S fuel (listed.setIfInBounds i true) (a.put (some d) v) w) : wpAnyH P md ops Q S (fuel + 1) listed a w := by
  refine wpAnyH_take hi hs hf hr ?_ (Or.inl ⟨hw, hy⟩) hS ?_
  · rw [hd]; exact hQ
  · rw [hd]; exact h
/-- One operation of a region that its guard passes over. -/
theorem off_d {P : Program} {ops : Array Oper} {Q : Exit → Act → World → Prop} {md : Region.Mode} {S : World → Prop} (i d : Nat) {oi : Oper} {fuel : Nat} {listed : Array Bool} {a : Act} {w : World} (hi : ops[i]? = some oi) (hd : oi.dst = some d)
    (hs : Region.noSelect ops = true) (hf : Region.free md ops listed i = true) (hr : (Region.ready md ops listed).contains i = true)
    (hQ : ∀ c a w, Q (.panic c) (a.put (some d) undef) w → Q (.panic c) a w) (hw : Region.wanted oi (yielded ops a.tmps) = false) (hS : S w)
    (h : wpAnyH P md ops Q S fuel (listed.setIfInBounds i true) (a.put (some d) undef) w) : wpAnyH P md ops Q S (fuel + 1) listed a w := by
  refine wpAnyH_take hi hs hf hr ?_ (Or.inr ⟨hw, rfl⟩) hS ?_
  · rw [hd]; exact hQ
  · rw [hd]; exact h
theorem Jx.here {w W : World} {nb g n4 : Nat} {A A' A2 : Option Addr} {l m : List S29} {c c' c2 : Nat} {a b : Int} (h : Jx w W nb g n4 A A' A2 l m c c' c2 a b) : Jx W W nb g n4 A A' A2 l m c c' c2 a b := { h with be := Below.refl _ _ }
theorem may_to {w : World} {nb g n4 : Nat} {A A' A2 : Option Addr} {l m : List S29} {c c' c2 : Nat} {a b : Int} {y : Bool} (h : Jx w w nb g n4 A A' A2 l m c c' c2 a b) (hc : l.length ≤ c) (hc' : m.length ≤ c') (kind : Int) (hy : ((chk kind l == 0) && (chk kind m == 0) && decide (n4 ≤ 16)) = y) :
    Calls Try.prog 17 #[.int .i64 kind, .pointer (some ⟨nb, 0, none⟩), .pointer (some ⟨nb + 1, 0, none⟩), .pointer (some ⟨g, 0, none⟩)] w fun e w' => e = .returned (.bool y) ∧ Below w.heap.size w w' := by
  have := may_c h hc hc' kind
  rw [hy] at this
  exact this
set_option maxRecDepth 100000 in
set_option maxHeartbeats 4000000 in
theorem joins_c {w : World} {A A' : Option Addr} {l m : List S29} {c c' : Nat} (hl : Row w A l) (hm : Row w A' m) (hc : l.length ≤ c) (hc' : m.length ≤ c') (hb : (l.length + m.length) * 16 ≤ 140737488355328) (a b : Int) :
    Calls Try.prog 4 #[.slice A l.length c, .slice A' m.length c', .agg #[.int .u64 a, .int .u64 b]] w fun e w' => e = .returned (.bool true) ∧ Below w.heap.size w w' := by
  go_enter Try.func4, Try.ntmps4
  go_upto_region 1 with fail
  have y0 : (((w.alloc (.cells #[.slice A l.length c] 22)).alloc (.cells #[.slice A' m.length c'] 22)).alloc (.cells #[.int .u64 a, .int .u64 b] 25)).heap[w.heap.size]? = some (.cells #[.slice A l.length c] 22 (0, 0)) := blk_alloc (blk_alloc (heap_alloc_new _ _) _) _
  have y1 : (((w.alloc (.cells #[.slice A l.length c] 22)).alloc (.cells #[.slice A' m.length c'] 22)).alloc (.cells #[.int .u64 a, .int .u64 b] 25)).heap[w.heap.size + 1]? = some (.cells #[.slice A' m.length c'] 22 (0, 0)) := by
    have := blk_alloc (heap_alloc_new (w.alloc (.cells #[.slice A l.length c] 22)) (.cells #[.slice A' m.length c'] 22)) (.cells #[.int .u64 a, .int .u64 b] 25)
    simpa using this
  have y2 : (((w.alloc (.cells #[.slice A l.length c] 22)).alloc (.cells #[.slice A' m.length c'] 22)).alloc (.cells #[.int .u64 a, .int .u64 b] 25)).heap[w.heap.size + 1 + 1]? = some (.cells #[.int .u64 a, .int .u64 b] 25 (0, 0)) := by
    have := heap_alloc_new ((w.alloc (.cells #[.slice A l.length c] 22)).alloc (.cells #[.slice A' m.length c'] 22)) (.cells #[.int .u64 a, .int .u64 b] 25)
    simpa using this
  have a3 : Below w.heap.size w (((w.alloc (.cells #[.slice A l.length c] 22)).alloc (.cells #[.slice A' m.length c'] 22)).alloc (.cells #[.int .u64 a, .int .u64 b] 25)) := (((Below.refl _ _).alloc (Nat.le_refl _) _).alloc (by simp) _).alloc (by simp; omega) _
  generalize (((w.alloc (.cells #[.slice A l.length c] 22)).alloc (.cells #[.slice A' m.length c'] 22)).alloc (.cells #[.int .u64 a, .int .u64 b] 25)) = W3 at *
  obtain ⟨nb, hnb⟩ : ∃ nb, nb = w.heap.size := ⟨_, rfl⟩
  rw [← hnb] at y0 y1 y2 ⊢
  have HNB := Lib.hid hnb
  clear hnb
  have z0 := blk_cell y0 0
  have z1 := blk_cell y1 0
  simp at z0 z1
  have rl := hl.below a3
  have rm := hm.below a3
  have hlt2 := blk_lt y2
  go_upto_region 2 with (go_at_call 16; refine (joined_c rl rm hb).mono ?_; rintro e w4 ⟨A2, c2, rfl, o4, b4⟩; obtain ⟨rj, hcj⟩ := Row.of_own o4; clear o4; obtain ⟨n4, hn4⟩ : ∃ n, n = (l ++ m).length := ⟨_, rfl⟩; rw [← hn4] at hcj ⊢; have HN4 := Lib.hid hn4; clear hn4)
  have a5 : Below w4.heap.size w4 (w4.alloc (.cells #[.slice A2 n4 c2] 22)) := (Below.refl _ _).alloc (Nat.le_refl _) _
  have hJ : Jx w (w4.alloc (.cells #[.slice A2 n4 c2] 22)) nb w4.heap.size n4 A A' A2 l m c c' c2 a b := by
    have c0 := blk_below (blk_below y0 b4) a5
    have c1 := blk_below (blk_below y1 b4) a5
    have c3 := blk_below (blk_below y2 b4) a5
    exact ⟨a3.trans ((b4.trans (a5.mono b4.size)).mono a3.size), blk_cell c0 0, blk_cell c1 0, blk_cell c3 0, blk_cell c3 1, blk_cell (heap_alloc_new _ _) 0, blk_lt c3, by simp, (rl.below b4).below a5, (rm.below b4).below a5, rj.below a5, HN4⟩
  obtain ⟨g, hg⟩ : ∃ g, g = w4.heap.size := ⟨_, rfl⟩
  rw [← hg] at hJ ⊢
  clear hg rl rm rj y0 y1 y2 z0 z1 hlt2 a5 b4
  generalize (w4.alloc (.cells #[.slice A2 n4 c2] 22)) = W5 at *
  go_upto_region 4 with (go_at_call 15; refine (known_c _).mono ?_; rintro e w6 ⟨rfl, b6⟩)
  have h6 := hJ.then b6
  clear hJ b6

  go_cut [27] (fun s wx => s = .bool false ∧ Jx w wx nb g n4 A A' A2 l m c c' c2 a b)
  case first =>
    have k0 := h6.then ((Below.refl _ _).drew)
    have e0 := h6.x0
    have e1 := h6.x1
    have e2 := h6.x2
    have e3 := h6.x3
    have e4 := h6.x4
    have HJ := Lib.hid h6
    clear h6
    by_cases hk : chk 2 (l ++ m) = 0
    · obtain ⟨r1, h1⟩ : ∃ r, r = mapP l (a, b) := ⟨_, rfl⟩
      obtain ⟨p1, q1⟩ := r1
      obtain ⟨r2, h2⟩ : ∃ r, r = mapP m (p1, q1) := ⟨_, rfl⟩
      obtain ⟨p2, q2⟩ := r2
      have h3 := J1 hk (a, b)
      rw [← h1, ← h2] at h3
      have H1 := Lib.hid h1.symm
      have H2 := Lib.hid h2.symm
      have H3 := Lib.hid h3
      have HK := Lib.hid hk
      clear h1 h2 h3 hk
      refine wp_region_held_drew (S := fun w' => w'.cell? ⟨nb, 0, none⟩ = some (.slice A l.length c) ∧ w'.cell? ⟨nb + 1, 0, none⟩ = some (.slice A' m.length c') ∧ w'.cell? ⟨nb + 1 + 1, 0, none⟩ = some (.int .u64 a) ∧ w'.cell? ⟨nb + 1 + 1, 1, none⟩ = some (.int .u64 b) ∧ w'.cell? ⟨g, 0, none⟩ = some (.slice A2 n4 c2)) (by kernel_rfl) ⟨k0.x0, k0.x1, k0.x2, k0.x3, k0.x4⟩ (fun hHeld => ?_)
      refine take_d (v := ?_) 0 14 rfl rfl (by kernel_rfl) (by kernel_rfl) (by kernel_rfl) (fun _ _ _ h => h) (by kernel_rfl) ?_ (by assumption) ?_
      rotate_left
      · (intro w hSw; (try dsimp only at hSw); go_simp; first | done | with_reducible rfl)
      try simp only [Act.put, List.setIfInBounds_toArray, List.set_cons_zero, List.set_cons_succ]
      refine wpAnyH_ready (rs := [1]) (by kernel_rfl) (by simp) ?_
      refine AllReadyH.cons rfl (fun K hK => ?_) AllReadyH.nil
      go_simp
      (go_at_call 8; refine (check_n 2 k0.rj HN4 hcj HK.out).mono ?_; rintro e w1 ⟨rfl, b1⟩; have k1 := k0.then b1)
      go_wp2_with fail
      refine hK.out _ _ ⟨k1.x0, k1.x1, k1.x2, k1.x3, k1.x4⟩ (fun hHeld => ?_)
      clear hK K
      try simp only [Act.put, List.setIfInBounds_toArray, List.set_cons_zero, List.set_cons_succ]
      refine take_d (v := ?_) 2 16 rfl rfl (by kernel_rfl) (by kernel_rfl) (by kernel_rfl) (fun _ _ _ h => h) (by kernel_rfl) ?_ (by assumption) ?_
      rotate_left
      · (intro w hSw; (try dsimp only at hSw); go_simp; first | done | with_reducible rfl)
      try simp only [Act.put, List.setIfInBounds_toArray, List.set_cons_zero, List.set_cons_succ]
      refine take_d (v := ?_) 3 17 rfl rfl (by kernel_rfl) (by kernel_rfl) (by kernel_rfl) (fun _ _ _ h => h) (by kernel_rfl) ?_ (by assumption) ?_
      rotate_left
      · (intro w hSw; (try dsimp only at hSw); go_simp; first | done | with_reducible rfl)
      try simp only [Act.put, List.setIfInBounds_toArray, List.set_cons_zero, List.set_cons_succ]
      refine take_d (v := ?_) 4 18 rfl rfl (by kernel_rfl) (by kernel_rfl) (by kernel_rfl) (fun _ _ _ h => h) (by kernel_rfl) ?_ (by assumption) ?_
      rotate_left
      · (intro w hSw; (try dsimp only at hSw); go_simp; first | done | with_reducible rfl)
      try simp only [Act.put, List.setIfInBounds_toArray, List.set_cons_zero, List.set_cons_succ]
      refine take_d (v := ?_) 5 19 rfl rfl (by kernel_rfl) (by kernel_rfl) (by kernel_rfl) (fun _ _ _ h => h) (by kernel_rfl) ?_ (by assumption) ?_
      rotate_left
      · (intro w hSw; (try dsimp only at hSw); go_simp; first | done | with_reducible rfl)
      try simp only [Act.put, List.setIfInBounds_toArray, List.set_cons_zero, List.set_cons_succ]
      refine take_d (v := ?_) 7 21 rfl rfl (by kernel_rfl) (by kernel_rfl) (by kernel_rfl) (fun _ _ _ h => h) (by kernel_rfl) ?_ (by assumption) ?_
      rotate_left
      · (intro w hSw; (try dsimp only at hSw); go_simp; first | done | with_reducible rfl)
      try simp only [Act.put, List.setIfInBounds_toArray, List.set_cons_zero, List.set_cons_succ]
      refine take_d (v := ?_) 8 22 rfl rfl (by kernel_rfl) (by kernel_rfl) (by kernel_rfl) (fun _ _ _ h => h) (by kernel_rfl) ?_ (by assumption) ?_
      rotate_left
      · (intro w hSw; (try dsimp only at hSw); go_simp; first | done | with_reducible rfl)
      try simp only [Act.put, List.setIfInBounds_toArray, List.set_cons_zero, List.set_cons_succ]
      refine take_d (v := ?_) 9 23 rfl rfl (by kernel_rfl) (by kernel_rfl) (by kernel_rfl) (fun _ _ _ h => h) (by kernel_rfl) ?_ (by assumption) ?_
      rotate_left
      · (intro w hSw; (try dsimp only at hSw); go_simp; first | done | with_reducible rfl)
      try simp only [Act.put, List.setIfInBounds_toArray, List.set_cons_zero, List.set_cons_succ]
      refine wpAnyH_ready (rs := [6]) (by kernel_rfl) (by simp) ?_
      refine AllReadyH.cons rfl (fun K hK => ?_) AllReadyH.nil
      go_simp
      (go_at_call 10; refine (map_n k1.rj HN4 hcj H3.out).mono ?_; rintro e w2 ⟨rfl, b2⟩; have k2 := k1.then b2)
      go_wp2_with fail
      refine hK.out _ _ ⟨k2.x0, k2.x1, k2.x2, k2.x3, k2.x4⟩ (fun hHeld => ?_)
      clear hK K
      try simp only [Act.put, List.setIfInBounds_toArray, List.set_cons_zero, List.set_cons_succ]
      refine wpAnyH_ready (rs := [10]) (by kernel_rfl) (by simp) ?_
      refine AllReadyH.cons rfl (fun K hK => ?_) AllReadyH.nil
      go_simp
      (go_at_call 10; refine (map_to k2.rl hc H1.out).mono ?_; rintro e w3 ⟨rfl, b3⟩; have k3 := k2.then b3)
      go_wp2_with fail
      refine hK.out _ _ ⟨k3.x0, k3.x1, k3.x2, k3.x3, k3.x4⟩ (fun hHeld => ?_)
      clear hK K
      try simp only [Act.put, List.setIfInBounds_toArray, List.set_cons_zero, List.set_cons_succ]
      refine wpAnyH_ready (rs := [11]) (by kernel_rfl) (by simp) ?_
      refine AllReadyH.cons rfl (fun K hK => ?_) AllReadyH.nil
      go_simp
      (go_at_call 10; refine (map_to k3.rm hc' H2.out).mono ?_; rintro e w4 ⟨rfl, b4⟩; have k4 := k3.then b4)
      go_wp2_with fail
      refine hK.out _ _ ⟨k4.x0, k4.x1, k4.x2, k4.x3, k4.x4⟩ (fun hHeld => ?_)
      clear hK K
      try simp only [Act.put, List.setIfInBounds_toArray, List.set_cons_zero, List.set_cons_succ]
      refine take_d (v := ?_) 12 26 rfl rfl (by kernel_rfl) (by kernel_rfl) (by kernel_rfl) (fun _ _ _ h => h) (by kernel_rfl) ?_ (by assumption) ?_
      rotate_left
      · (intro w hSw; (try dsimp only at hSw); go_simp; first | done | with_reducible rfl)
      try simp only [Act.put, List.setIfInBounds_toArray, List.set_cons_zero, List.set_cons_succ]
      refine take_d (v := ?_) 13 27 rfl rfl (by kernel_rfl) (by kernel_rfl) (by kernel_rfl) (fun _ _ _ h => h) (by kernel_rfl) ?_ (by assumption) ?_
      rotate_left
      · (intro w hSw; (try dsimp only at hSw); go_simp; first | done | with_reducible rfl)
      try simp only [Act.put, List.setIfInBounds_toArray, List.set_cons_zero, List.set_cons_succ]
      refine wpAnyH_done (by kernel_rfl) ?_ _
      go_wp2_with fail
      go_meet
      exact ⟨by simp, k4⟩
    · rcases chk_vals 2 (l ++ m) with hz | hz | hz | hz
      · exact absurd hz hk
      all_goals
        have HZ := Lib.hid hz
        clear hz hk
        refine wp_region_held_drew (S := fun w' => w'.cell? ⟨nb, 0, none⟩ = some (.slice A l.length c) ∧ w'.cell? ⟨nb + 1, 0, none⟩ = some (.slice A' m.length c') ∧ w'.cell? ⟨nb + 1 + 1, 0, none⟩ = some (.int .u64 a) ∧ w'.cell? ⟨nb + 1 + 1, 1, none⟩ = some (.int .u64 b) ∧ w'.cell? ⟨g, 0, none⟩ = some (.slice A2 n4 c2)) (by kernel_rfl) ⟨k0.x0, k0.x1, k0.x2, k0.x3, k0.x4⟩ (fun hHeld => ?_)
        refine take_d (v := ?_) 0 14 rfl rfl (by kernel_rfl) (by kernel_rfl) (by kernel_rfl) (fun _ _ _ h => h) (by kernel_rfl) ?_ (by assumption) ?_
        rotate_left
        · (intro w hSw; (try dsimp only at hSw); go_simp; first | done | with_reducible rfl)
        try simp only [Act.put, List.setIfInBounds_toArray, List.set_cons_zero, List.set_cons_succ]
        refine wpAnyH_ready (rs := [1]) (by kernel_rfl) (by simp) ?_
        refine AllReadyH.cons rfl (fun K hK => ?_) AllReadyH.nil
        go_simp
        (go_at_call 8; refine (check_n 2 k0.rj HN4 hcj HZ.out).mono ?_; rintro e w1 ⟨rfl, b1⟩; have k1 := k0.then b1)
        go_wp2_with fail
        refine hK.out _ _ ⟨k1.x0, k1.x1, k1.x2, k1.x3, k1.x4⟩ (fun hHeld => ?_)
        clear hK K
        try simp only [Act.put, List.setIfInBounds_toArray, List.set_cons_zero, List.set_cons_succ]
        refine take_d (v := ?_) 2 16 rfl rfl (by kernel_rfl) (by kernel_rfl) (by kernel_rfl) (fun _ _ _ h => h) (by kernel_rfl) ?_ (by assumption) ?_
        rotate_left
        · (intro w hSw; (try dsimp only at hSw); go_simp; first | done | with_reducible rfl)
        try simp only [Act.put, List.setIfInBounds_toArray, List.set_cons_zero, List.set_cons_succ]
        refine take_d (v := ?_) 3 17 rfl rfl (by kernel_rfl) (by kernel_rfl) (by kernel_rfl) (fun _ _ _ h => h) (by kernel_rfl) ?_ (by assumption) ?_
        rotate_left
        · (intro w hSw; (try dsimp only at hSw); go_simp; first | done | with_reducible rfl)
        try simp only [Act.put, List.setIfInBounds_toArray, List.set_cons_zero, List.set_cons_succ]
        refine off_d 4 18 rfl rfl (by kernel_rfl) (by kernel_rfl) (by kernel_rfl) (fun _ _ _ h => h) (by kernel_rfl) (by assumption) ?_
        try simp only [Act.put, List.setIfInBounds_toArray, List.set_cons_zero, List.set_cons_succ]
        refine off_d 5 19 rfl rfl (by kernel_rfl) (by kernel_rfl) (by kernel_rfl) (fun _ _ _ h => h) (by kernel_rfl) (by assumption) ?_
        try simp only [Act.put, List.setIfInBounds_toArray, List.set_cons_zero, List.set_cons_succ]
        refine off_d 6 20 rfl rfl (by kernel_rfl) (by kernel_rfl) (by kernel_rfl) (fun _ _ _ h => h) (by kernel_rfl) (by assumption) ?_
        try simp only [Act.put, List.setIfInBounds_toArray, List.set_cons_zero, List.set_cons_succ]
        refine off_d 7 21 rfl rfl (by kernel_rfl) (by kernel_rfl) (by kernel_rfl) (fun _ _ _ h => h) (by kernel_rfl) (by assumption) ?_
        try simp only [Act.put, List.setIfInBounds_toArray, List.set_cons_zero, List.set_cons_succ]
        refine off_d 8 22 rfl rfl (by kernel_rfl) (by kernel_rfl) (by kernel_rfl) (fun _ _ _ h => h) (by kernel_rfl) (by assumption) ?_
        try simp only [Act.put, List.setIfInBounds_toArray, List.set_cons_zero, List.set_cons_succ]
        refine off_d 9 23 rfl rfl (by kernel_rfl) (by kernel_rfl) (by kernel_rfl) (fun _ _ _ h => h) (by kernel_rfl) (by assumption) ?_
        try simp only [Act.put, List.setIfInBounds_toArray, List.set_cons_zero, List.set_cons_succ]
        refine off_d 10 24 rfl rfl (by kernel_rfl) (by kernel_rfl) (by kernel_rfl) (fun _ _ _ h => h) (by kernel_rfl) (by assumption) ?_
        try simp only [Act.put, List.setIfInBounds_toArray, List.set_cons_zero, List.set_cons_succ]
        refine off_d 11 25 rfl rfl (by kernel_rfl) (by kernel_rfl) (by kernel_rfl) (fun _ _ _ h => h) (by kernel_rfl) (by assumption) ?_
        try simp only [Act.put, List.setIfInBounds_toArray, List.set_cons_zero, List.set_cons_succ]
        refine off_d 12 26 rfl rfl (by kernel_rfl) (by kernel_rfl) (by kernel_rfl) (fun _ _ _ h => h) (by kernel_rfl) (by assumption) ?_
        try simp only [Act.put, List.setIfInBounds_toArray, List.set_cons_zero, List.set_cons_succ]
        refine take_d (v := ?_) 13 27 rfl rfl (by kernel_rfl) (by kernel_rfl) (by kernel_rfl) (fun _ _ _ h => h) (by kernel_rfl) ?_ (by assumption) ?_
        rotate_left
        · (intro w hSw; (try dsimp only at hSw); go_simp; first | done | with_reducible rfl)
        try simp only [Act.put, List.setIfInBounds_toArray, List.set_cons_zero, List.set_cons_succ]
        refine wpAnyH_done (by kernel_rfl) ?_ _
        go_wp2_with fail
        go_meet
        exact ⟨by simp, k1⟩
  case rest =>
  obtain ⟨rfl, hj4⟩ := hcut
  clear h6
  go_upto_region 6 with fail

  go_cut [44] (fun s wx => s = .bool false ∧ Jx w wx nb g n4 A A' A2 l m c c' c2 a b)
  case first =>
    have k0 := hj4.then ((Below.refl _ _).drew)
    have e0 := hj4.x0
    have e1 := hj4.x1
    have e2 := hj4.x2
    have e3 := hj4.x3
    have e4 := hj4.x4
    have HJ := Lib.hid hj4
    clear hj4
    by_cases hk : chk 3 (l ++ m) = 0
    · have h3 := J2 hk (a, b)
      have HK := Lib.hid hk
      clear hk
      cases h1 : passP l (a, b) with
      | true =>
        obtain ⟨z2, h2⟩ : ∃ r, r = passP m (a, b) := ⟨_, rfl⟩
        rw [h1, ← h2, Bool.true_and] at h3
        have H1 := Lib.hid h1
        have H2 := Lib.hid h2.symm
        have H3 := Lib.hid h3
        clear h1 h2 h3
        refine wp_region_held_drew (S := fun w' => w'.cell? ⟨nb, 0, none⟩ = some (.slice A l.length c) ∧ w'.cell? ⟨nb + 1, 0, none⟩ = some (.slice A' m.length c') ∧ w'.cell? ⟨nb + 1 + 1, 0, none⟩ = some (.int .u64 a) ∧ w'.cell? ⟨nb + 1 + 1, 1, none⟩ = some (.int .u64 b) ∧ w'.cell? ⟨g, 0, none⟩ = some (.slice A2 n4 c2)) (by kernel_rfl) ⟨k0.x0, k0.x1, k0.x2, k0.x3, k0.x4⟩ (fun hHeld => ?_)
        refine take_d (v := ?_) 0 28 rfl rfl (by kernel_rfl) (by kernel_rfl) (by kernel_rfl) (fun _ _ _ h => h) (by kernel_rfl) ?_ (by assumption) ?_
        rotate_left
        · (intro w hSw; (try dsimp only at hSw); go_simp; first | done | with_reducible rfl)
        try simp only [Act.put, List.setIfInBounds_toArray, List.set_cons_zero, List.set_cons_succ]
        refine wpAnyH_ready (rs := [1]) (by kernel_rfl) (by simp) ?_
        refine AllReadyH.cons rfl (fun K hK => ?_) AllReadyH.nil
        go_simp
        (go_at_call 8; refine (check_n 3 k0.rj HN4 hcj HK.out).mono ?_; rintro e w1 ⟨rfl, b1⟩; have k1 := k0.then b1)
        go_wp2_with fail
        refine hK.out _ _ ⟨k1.x0, k1.x1, k1.x2, k1.x3, k1.x4⟩ (fun hHeld => ?_)
        clear hK K
        try simp only [Act.put, List.setIfInBounds_toArray, List.set_cons_zero, List.set_cons_succ]
        refine take_d (v := ?_) 2 30 rfl rfl (by kernel_rfl) (by kernel_rfl) (by kernel_rfl) (fun _ _ _ h => h) (by kernel_rfl) ?_ (by assumption) ?_
        rotate_left
        · (intro w hSw; (try dsimp only at hSw); go_simp; first | done | with_reducible rfl)
        try simp only [Act.put, List.setIfInBounds_toArray, List.set_cons_zero, List.set_cons_succ]
        refine take_d (v := ?_) 3 31 rfl rfl (by kernel_rfl) (by kernel_rfl) (by kernel_rfl) (fun _ _ _ h => h) (by kernel_rfl) ?_ (by assumption) ?_
        rotate_left
        · (intro w hSw; (try dsimp only at hSw); go_simp; first | done | with_reducible rfl)
        try simp only [Act.put, List.setIfInBounds_toArray, List.set_cons_zero, List.set_cons_succ]
        refine take_d (v := ?_) 4 32 rfl rfl (by kernel_rfl) (by kernel_rfl) (by kernel_rfl) (fun _ _ _ h => h) (by kernel_rfl) ?_ (by assumption) ?_
        rotate_left
        · (intro w hSw; (try dsimp only at hSw); go_simp; first | done | with_reducible rfl)
        try simp only [Act.put, List.setIfInBounds_toArray, List.set_cons_zero, List.set_cons_succ]
        refine take_d (v := ?_) 5 33 rfl rfl (by kernel_rfl) (by kernel_rfl) (by kernel_rfl) (fun _ _ _ h => h) (by kernel_rfl) ?_ (by assumption) ?_
        rotate_left
        · (intro w hSw; (try dsimp only at hSw); go_simp; first | done | with_reducible rfl)
        try simp only [Act.put, List.setIfInBounds_toArray, List.set_cons_zero, List.set_cons_succ]
        refine take_d (v := ?_) 7 35 rfl rfl (by kernel_rfl) (by kernel_rfl) (by kernel_rfl) (fun _ _ _ h => h) (by kernel_rfl) ?_ (by assumption) ?_
        rotate_left
        · (intro w hSw; (try dsimp only at hSw); go_simp; first | done | with_reducible rfl)
        try simp only [Act.put, List.setIfInBounds_toArray, List.set_cons_zero, List.set_cons_succ]
        refine take_d (v := ?_) 8 36 rfl rfl (by kernel_rfl) (by kernel_rfl) (by kernel_rfl) (fun _ _ _ h => h) (by kernel_rfl) ?_ (by assumption) ?_
        rotate_left
        · (intro w hSw; (try dsimp only at hSw); go_simp; first | done | with_reducible rfl)
        try simp only [Act.put, List.setIfInBounds_toArray, List.set_cons_zero, List.set_cons_succ]
        refine wpAnyH_ready (rs := [6]) (by kernel_rfl) (by simp) ?_
        refine AllReadyH.cons rfl (fun K hK => ?_) AllReadyH.nil
        go_simp
        (go_at_call 12; refine (pass_n k1.rj HN4 hcj H3.out).mono ?_; rintro e w2 ⟨rfl, b2⟩; have k2 := k1.then b2)
        go_wp2_with fail
        refine hK.out _ _ ⟨k2.x0, k2.x1, k2.x2, k2.x3, k2.x4⟩ (fun hHeld => ?_)
        clear hK K
        try simp only [Act.put, List.setIfInBounds_toArray, List.set_cons_zero, List.set_cons_succ]
        refine wpAnyH_ready (rs := [9]) (by kernel_rfl) (by simp) ?_
        refine AllReadyH.cons rfl (fun K hK => ?_) AllReadyH.nil
        go_simp
        (go_at_call 12; refine (pass_to k2.rl hc H1.out).mono ?_; rintro e w3 ⟨rfl, b3⟩; have k3 := k2.then b3)
        go_wp2_with fail
        refine hK.out _ _ ⟨k3.x0, k3.x1, k3.x2, k3.x3, k3.x4⟩ (fun hHeld => ?_)
        clear hK K
        try simp only [Act.put, List.setIfInBounds_toArray, List.set_cons_zero, List.set_cons_succ]
        refine take_d (v := ?_) 10 38 rfl rfl (by kernel_rfl) (by kernel_rfl) (by kernel_rfl) (fun _ _ _ h => h) (by kernel_rfl) ?_ (by assumption) ?_
        rotate_left
        · (intro w hSw; (try dsimp only at hSw); go_simp; first | done | with_reducible rfl)
        try simp only [Act.put, List.setIfInBounds_toArray, List.set_cons_zero, List.set_cons_succ]
        refine take_d (v := ?_) 11 39 rfl rfl (by kernel_rfl) (by kernel_rfl) (by kernel_rfl) (fun _ _ _ h => h) (by kernel_rfl) ?_ (by assumption) ?_
        rotate_left
        · (intro w hSw; (try dsimp only at hSw); go_simp; first | done | with_reducible rfl)
        try simp only [Act.put, List.setIfInBounds_toArray, List.set_cons_zero, List.set_cons_succ]
        refine take_d (v := ?_) 12 40 rfl rfl (by kernel_rfl) (by kernel_rfl) (by kernel_rfl) (fun _ _ _ h => h) (by kernel_rfl) ?_ (by assumption) ?_
        rotate_left
        · (intro w hSw; (try dsimp only at hSw); go_simp; first | done | with_reducible rfl)
        try simp only [Act.put, List.setIfInBounds_toArray, List.set_cons_zero, List.set_cons_succ]
        refine wpAnyH_ready (rs := [13]) (by kernel_rfl) (by simp) ?_
        refine AllReadyH.cons rfl (fun K hK => ?_) AllReadyH.nil
        go_simp
        (go_at_call 12; refine (pass_to k3.rm hc' H2.out).mono ?_; rintro e w4 ⟨rfl, b4⟩; have k4 := k3.then b4)
        go_wp2_with fail
        refine hK.out _ _ ⟨k4.x0, k4.x1, k4.x2, k4.x3, k4.x4⟩ (fun hHeld => ?_)
        clear hK K
        try simp only [Act.put, List.setIfInBounds_toArray, List.set_cons_zero, List.set_cons_succ]
        refine take_d (v := ?_) 14 42 rfl rfl (by kernel_rfl) (by kernel_rfl) (by kernel_rfl) (fun _ _ _ h => h) (by kernel_rfl) ?_ (by assumption) ?_
        rotate_left
        · (intro w hSw; (try dsimp only at hSw); go_simp; first | done | with_reducible rfl)
        try simp only [Act.put, List.setIfInBounds_toArray, List.set_cons_zero, List.set_cons_succ]
        refine take_d (v := ?_) 15 43 rfl rfl (by kernel_rfl) (by kernel_rfl) (by kernel_rfl) (fun _ _ _ h => h) (by kernel_rfl) ?_ (by assumption) ?_
        rotate_left
        · (intro w hSw; (try dsimp only at hSw); go_simp; first | done | with_reducible rfl)
        try simp only [Act.put, List.setIfInBounds_toArray, List.set_cons_zero, List.set_cons_succ]
        refine take_d (v := ?_) 16 44 rfl rfl (by kernel_rfl) (by kernel_rfl) (by kernel_rfl) (fun _ _ _ h => h) (by kernel_rfl) ?_ (by assumption) ?_
        rotate_left
        · (intro w hSw; (try dsimp only at hSw); go_simp; first | done | with_reducible rfl)
        try simp only [Act.put, List.setIfInBounds_toArray, List.set_cons_zero, List.set_cons_succ]
        refine wpAnyH_done (by kernel_rfl) ?_ _
        go_wp2_with fail
        go_meet
        exact ⟨by simp, k4⟩
      | false =>
        rw [h1, Bool.false_and] at h3
        have H1 := Lib.hid h1
        have H3 := Lib.hid h3
        clear h1 h3
        refine wp_region_held_drew (S := fun w' => w'.cell? ⟨nb, 0, none⟩ = some (.slice A l.length c) ∧ w'.cell? ⟨nb + 1, 0, none⟩ = some (.slice A' m.length c') ∧ w'.cell? ⟨nb + 1 + 1, 0, none⟩ = some (.int .u64 a) ∧ w'.cell? ⟨nb + 1 + 1, 1, none⟩ = some (.int .u64 b) ∧ w'.cell? ⟨g, 0, none⟩ = some (.slice A2 n4 c2)) (by kernel_rfl) ⟨k0.x0, k0.x1, k0.x2, k0.x3, k0.x4⟩ (fun hHeld => ?_)
        refine take_d (v := ?_) 0 28 rfl rfl (by kernel_rfl) (by kernel_rfl) (by kernel_rfl) (fun _ _ _ h => h) (by kernel_rfl) ?_ (by assumption) ?_
        rotate_left
        · (intro w hSw; (try dsimp only at hSw); go_simp; first | done | with_reducible rfl)
        try simp only [Act.put, List.setIfInBounds_toArray, List.set_cons_zero, List.set_cons_succ]
        refine wpAnyH_ready (rs := [1]) (by kernel_rfl) (by simp) ?_
        refine AllReadyH.cons rfl (fun K hK => ?_) AllReadyH.nil
        go_simp
        (go_at_call 8; refine (check_n 3 k0.rj HN4 hcj HK.out).mono ?_; rintro e w1 ⟨rfl, b1⟩; have k1 := k0.then b1)
        go_wp2_with fail
        refine hK.out _ _ ⟨k1.x0, k1.x1, k1.x2, k1.x3, k1.x4⟩ (fun hHeld => ?_)
        clear hK K
        try simp only [Act.put, List.setIfInBounds_toArray, List.set_cons_zero, List.set_cons_succ]
        refine take_d (v := ?_) 2 30 rfl rfl (by kernel_rfl) (by kernel_rfl) (by kernel_rfl) (fun _ _ _ h => h) (by kernel_rfl) ?_ (by assumption) ?_
        rotate_left
        · (intro w hSw; (try dsimp only at hSw); go_simp; first | done | with_reducible rfl)
        try simp only [Act.put, List.setIfInBounds_toArray, List.set_cons_zero, List.set_cons_succ]
        refine take_d (v := ?_) 3 31 rfl rfl (by kernel_rfl) (by kernel_rfl) (by kernel_rfl) (fun _ _ _ h => h) (by kernel_rfl) ?_ (by assumption) ?_
        rotate_left
        · (intro w hSw; (try dsimp only at hSw); go_simp; first | done | with_reducible rfl)
        try simp only [Act.put, List.setIfInBounds_toArray, List.set_cons_zero, List.set_cons_succ]
        refine take_d (v := ?_) 4 32 rfl rfl (by kernel_rfl) (by kernel_rfl) (by kernel_rfl) (fun _ _ _ h => h) (by kernel_rfl) ?_ (by assumption) ?_
        rotate_left
        · (intro w hSw; (try dsimp only at hSw); go_simp; first | done | with_reducible rfl)
        try simp only [Act.put, List.setIfInBounds_toArray, List.set_cons_zero, List.set_cons_succ]
        refine take_d (v := ?_) 5 33 rfl rfl (by kernel_rfl) (by kernel_rfl) (by kernel_rfl) (fun _ _ _ h => h) (by kernel_rfl) ?_ (by assumption) ?_
        rotate_left
        · (intro w hSw; (try dsimp only at hSw); go_simp; first | done | with_reducible rfl)
        try simp only [Act.put, List.setIfInBounds_toArray, List.set_cons_zero, List.set_cons_succ]
        refine take_d (v := ?_) 7 35 rfl rfl (by kernel_rfl) (by kernel_rfl) (by kernel_rfl) (fun _ _ _ h => h) (by kernel_rfl) ?_ (by assumption) ?_
        rotate_left
        · (intro w hSw; (try dsimp only at hSw); go_simp; first | done | with_reducible rfl)
        try simp only [Act.put, List.setIfInBounds_toArray, List.set_cons_zero, List.set_cons_succ]
        refine take_d (v := ?_) 8 36 rfl rfl (by kernel_rfl) (by kernel_rfl) (by kernel_rfl) (fun _ _ _ h => h) (by kernel_rfl) ?_ (by assumption) ?_
        rotate_left
        · (intro w hSw; (try dsimp only at hSw); go_simp; first | done | with_reducible rfl)
        try simp only [Act.put, List.setIfInBounds_toArray, List.set_cons_zero, List.set_cons_succ]
        refine wpAnyH_ready (rs := [6]) (by kernel_rfl) (by simp) ?_
        refine AllReadyH.cons rfl (fun K hK => ?_) AllReadyH.nil
        go_simp
        (go_at_call 12; refine (pass_n k1.rj HN4 hcj H3.out).mono ?_; rintro e w2 ⟨rfl, b2⟩; have k2 := k1.then b2)
        go_wp2_with fail
        refine hK.out _ _ ⟨k2.x0, k2.x1, k2.x2, k2.x3, k2.x4⟩ (fun hHeld => ?_)
        clear hK K
        try simp only [Act.put, List.setIfInBounds_toArray, List.set_cons_zero, List.set_cons_succ]
        refine wpAnyH_ready (rs := [9]) (by kernel_rfl) (by simp) ?_
        refine AllReadyH.cons rfl (fun K hK => ?_) AllReadyH.nil
        go_simp
        (go_at_call 12; refine (pass_to k2.rl hc H1.out).mono ?_; rintro e w3 ⟨rfl, b3⟩; have k3 := k2.then b3)
        go_wp2_with fail
        refine hK.out _ _ ⟨k3.x0, k3.x1, k3.x2, k3.x3, k3.x4⟩ (fun hHeld => ?_)
        clear hK K
        try simp only [Act.put, List.setIfInBounds_toArray, List.set_cons_zero, List.set_cons_succ]
        refine take_d (v := ?_) 10 38 rfl rfl (by kernel_rfl) (by kernel_rfl) (by kernel_rfl) (fun _ _ _ h => h) (by kernel_rfl) ?_ (by assumption) ?_
        rotate_left
        · (intro w hSw; (try dsimp only at hSw); go_simp; first | done | with_reducible rfl)
        try simp only [Act.put, List.setIfInBounds_toArray, List.set_cons_zero, List.set_cons_succ]
        refine off_d 11 39 rfl rfl (by kernel_rfl) (by kernel_rfl) (by kernel_rfl) (fun _ _ _ h => h) (by kernel_rfl) (by assumption) ?_
        try simp only [Act.put, List.setIfInBounds_toArray, List.set_cons_zero, List.set_cons_succ]
        refine off_d 12 40 rfl rfl (by kernel_rfl) (by kernel_rfl) (by kernel_rfl) (fun _ _ _ h => h) (by kernel_rfl) (by assumption) ?_
        try simp only [Act.put, List.setIfInBounds_toArray, List.set_cons_zero, List.set_cons_succ]
        refine off_d 13 41 rfl rfl (by kernel_rfl) (by kernel_rfl) (by kernel_rfl) (fun _ _ _ h => h) (by kernel_rfl) (by assumption) ?_
        try simp only [Act.put, List.setIfInBounds_toArray, List.set_cons_zero, List.set_cons_succ]
        refine take_d (v := ?_) 14 42 rfl rfl (by kernel_rfl) (by kernel_rfl) (by kernel_rfl) (fun _ _ _ h => h) (by kernel_rfl) ?_ (by assumption) ?_
        rotate_left
        · (intro w hSw; (try dsimp only at hSw); go_simp; first | done | with_reducible rfl)
        try simp only [Act.put, List.setIfInBounds_toArray, List.set_cons_zero, List.set_cons_succ]
        refine take_d (v := ?_) 15 43 rfl rfl (by kernel_rfl) (by kernel_rfl) (by kernel_rfl) (fun _ _ _ h => h) (by kernel_rfl) ?_ (by assumption) ?_
        rotate_left
        · (intro w hSw; (try dsimp only at hSw); go_simp; first | done | with_reducible rfl)
        try simp only [Act.put, List.setIfInBounds_toArray, List.set_cons_zero, List.set_cons_succ]
        refine take_d (v := ?_) 16 44 rfl rfl (by kernel_rfl) (by kernel_rfl) (by kernel_rfl) (fun _ _ _ h => h) (by kernel_rfl) ?_ (by assumption) ?_
        rotate_left
        · (intro w hSw; (try dsimp only at hSw); go_simp; first | done | with_reducible rfl)
        try simp only [Act.put, List.setIfInBounds_toArray, List.set_cons_zero, List.set_cons_succ]
        refine wpAnyH_done (by kernel_rfl) ?_ _
        go_wp2_with fail
        go_meet
        exact ⟨by simp, k3⟩
    · rcases chk_vals 3 (l ++ m) with hz | hz | hz | hz
      · exact absurd hz hk
      all_goals
        have HZ := Lib.hid hz
        clear hz hk
        refine wp_region_held_drew (S := fun w' => w'.cell? ⟨nb, 0, none⟩ = some (.slice A l.length c) ∧ w'.cell? ⟨nb + 1, 0, none⟩ = some (.slice A' m.length c') ∧ w'.cell? ⟨nb + 1 + 1, 0, none⟩ = some (.int .u64 a) ∧ w'.cell? ⟨nb + 1 + 1, 1, none⟩ = some (.int .u64 b) ∧ w'.cell? ⟨g, 0, none⟩ = some (.slice A2 n4 c2)) (by kernel_rfl) ⟨k0.x0, k0.x1, k0.x2, k0.x3, k0.x4⟩ (fun hHeld => ?_)
        refine take_d (v := ?_) 0 28 rfl rfl (by kernel_rfl) (by kernel_rfl) (by kernel_rfl) (fun _ _ _ h => h) (by kernel_rfl) ?_ (by assumption) ?_
        rotate_left
        · (intro w hSw; (try dsimp only at hSw); go_simp; first | done | with_reducible rfl)
        try simp only [Act.put, List.setIfInBounds_toArray, List.set_cons_zero, List.set_cons_succ]
        refine wpAnyH_ready (rs := [1]) (by kernel_rfl) (by simp) ?_
        refine AllReadyH.cons rfl (fun K hK => ?_) AllReadyH.nil
        go_simp
        (go_at_call 8; refine (check_n 3 k0.rj HN4 hcj HZ.out).mono ?_; rintro e w1 ⟨rfl, b1⟩; have k1 := k0.then b1)
        go_wp2_with fail
        refine hK.out _ _ ⟨k1.x0, k1.x1, k1.x2, k1.x3, k1.x4⟩ (fun hHeld => ?_)
        clear hK K
        try simp only [Act.put, List.setIfInBounds_toArray, List.set_cons_zero, List.set_cons_succ]
        refine take_d (v := ?_) 2 30 rfl rfl (by kernel_rfl) (by kernel_rfl) (by kernel_rfl) (fun _ _ _ h => h) (by kernel_rfl) ?_ (by assumption) ?_
        rotate_left
        · (intro w hSw; (try dsimp only at hSw); go_simp; first | done | with_reducible rfl)
        try simp only [Act.put, List.setIfInBounds_toArray, List.set_cons_zero, List.set_cons_succ]
        refine take_d (v := ?_) 3 31 rfl rfl (by kernel_rfl) (by kernel_rfl) (by kernel_rfl) (fun _ _ _ h => h) (by kernel_rfl) ?_ (by assumption) ?_
        rotate_left
        · (intro w hSw; (try dsimp only at hSw); go_simp; first | done | with_reducible rfl)
        try simp only [Act.put, List.setIfInBounds_toArray, List.set_cons_zero, List.set_cons_succ]
        refine off_d 4 32 rfl rfl (by kernel_rfl) (by kernel_rfl) (by kernel_rfl) (fun _ _ _ h => h) (by kernel_rfl) (by assumption) ?_
        try simp only [Act.put, List.setIfInBounds_toArray, List.set_cons_zero, List.set_cons_succ]
        refine off_d 5 33 rfl rfl (by kernel_rfl) (by kernel_rfl) (by kernel_rfl) (fun _ _ _ h => h) (by kernel_rfl) (by assumption) ?_
        try simp only [Act.put, List.setIfInBounds_toArray, List.set_cons_zero, List.set_cons_succ]
        refine off_d 6 34 rfl rfl (by kernel_rfl) (by kernel_rfl) (by kernel_rfl) (fun _ _ _ h => h) (by kernel_rfl) (by assumption) ?_
        try simp only [Act.put, List.setIfInBounds_toArray, List.set_cons_zero, List.set_cons_succ]
        refine off_d 7 35 rfl rfl (by kernel_rfl) (by kernel_rfl) (by kernel_rfl) (fun _ _ _ h => h) (by kernel_rfl) (by assumption) ?_
        try simp only [Act.put, List.setIfInBounds_toArray, List.set_cons_zero, List.set_cons_succ]
        refine off_d 8 36 rfl rfl (by kernel_rfl) (by kernel_rfl) (by kernel_rfl) (fun _ _ _ h => h) (by kernel_rfl) (by assumption) ?_
        try simp only [Act.put, List.setIfInBounds_toArray, List.set_cons_zero, List.set_cons_succ]
        refine off_d 9 37 rfl rfl (by kernel_rfl) (by kernel_rfl) (by kernel_rfl) (fun _ _ _ h => h) (by kernel_rfl) (by assumption) ?_
        try simp only [Act.put, List.setIfInBounds_toArray, List.set_cons_zero, List.set_cons_succ]
        refine off_d 10 38 rfl rfl (by kernel_rfl) (by kernel_rfl) (by kernel_rfl) (fun _ _ _ h => h) (by kernel_rfl) (by assumption) ?_
        try simp only [Act.put, List.setIfInBounds_toArray, List.set_cons_zero, List.set_cons_succ]
        refine off_d 11 39 rfl rfl (by kernel_rfl) (by kernel_rfl) (by kernel_rfl) (fun _ _ _ h => h) (by kernel_rfl) (by assumption) ?_
        try simp only [Act.put, List.setIfInBounds_toArray, List.set_cons_zero, List.set_cons_succ]
        refine off_d 12 40 rfl rfl (by kernel_rfl) (by kernel_rfl) (by kernel_rfl) (fun _ _ _ h => h) (by kernel_rfl) (by assumption) ?_
        try simp only [Act.put, List.setIfInBounds_toArray, List.set_cons_zero, List.set_cons_succ]
        refine off_d 13 41 rfl rfl (by kernel_rfl) (by kernel_rfl) (by kernel_rfl) (fun _ _ _ h => h) (by kernel_rfl) (by assumption) ?_
        try simp only [Act.put, List.setIfInBounds_toArray, List.set_cons_zero, List.set_cons_succ]
        refine off_d 14 42 rfl rfl (by kernel_rfl) (by kernel_rfl) (by kernel_rfl) (fun _ _ _ h => h) (by kernel_rfl) (by assumption) ?_
        try simp only [Act.put, List.setIfInBounds_toArray, List.set_cons_zero, List.set_cons_succ]
        refine off_d 15 43 rfl rfl (by kernel_rfl) (by kernel_rfl) (by kernel_rfl) (fun _ _ _ h => h) (by kernel_rfl) (by assumption) ?_
        try simp only [Act.put, List.setIfInBounds_toArray, List.set_cons_zero, List.set_cons_succ]
        refine take_d (v := ?_) 16 44 rfl rfl (by kernel_rfl) (by kernel_rfl) (by kernel_rfl) (fun _ _ _ h => h) (by kernel_rfl) ?_ (by assumption) ?_
        rotate_left
        · (intro w hSw; (try dsimp only at hSw); go_simp; first | done | with_reducible rfl)
        try simp only [Act.put, List.setIfInBounds_toArray, List.set_cons_zero, List.set_cons_succ]
        refine wpAnyH_done (by kernel_rfl) ?_ _
        go_wp2_with fail
        go_meet
        exact ⟨by simp, k1⟩
  case rest =>
  obtain ⟨rfl, hj6⟩ := hcut
  clear hj4
  go_upto_region 9 with fail
  have t2 := J3 (k := 2) (.inl rfl) l m
  have t3 := J3 (k := 3) (.inr rfl) l m
  rw [← HN4.out] at t2 t3
  obtain ⟨z2, hz2⟩ : ∃ z, z = chk 2 (l ++ m) := ⟨_, rfl⟩
  obtain ⟨z3, hz3⟩ : ∃ z, z = chk 3 (l ++ m) := ⟨_, rfl⟩
  rw [← hz2] at t2
  rw [← hz3] at t3
  obtain ⟨y2, hy2⟩ : ∃ y, y = ((chk 2 l == 0) && (chk 2 m == 0) && decide (n4 ≤ 16)) := ⟨_, rfl⟩
  obtain ⟨y3, hy3⟩ : ∃ y, y = ((chk 3 l == 0) && (chk 3 m == 0) && decide (n4 ≤ 16)) := ⟨_, rfl⟩
  rw [← hy2] at t2
  rw [← hy3] at t3
  have H2 := Lib.hid hz2.symm
  have H3 := Lib.hid hz3.symm
  have Y2 := Lib.hid hy2.symm
  have Y3 := Lib.hid hy3.symm
  clear hz2 hz3 hy2 hy3
  have e4 := hj6.x4
  have HJ := Lib.hid hj6
  clear hj6
  cases y2 <;> cases y3
  all_goals
    go_wp2_with (first
      | (go_at_call 17; refine (may_to k3.here hc hc' 3 Y3.out).mono ?_; rintro e w8 ⟨rfl, b4⟩; have k4 := k3.then b4)
      | (go_at_call 8; refine (check_n 3 k2.rj HN4 hcj H3.out).mono ?_; rintro e w7 ⟨rfl, b3⟩; have k3 := k2.then b3)
      | (go_at_call 17; refine (may_to k1.here hc hc' 2 Y2.out).mono ?_; rintro e w6 ⟨rfl, b2⟩; have k2 := k1.then b2; have g2 := k2.x4)
      | (go_at_call 8; refine (check_n 2 HJ.out.rj HN4 hcj H2.out).mono ?_; rintro e w5 ⟨rfl, b1⟩; have k1 := HJ.out.then b1))
    go_ret
    exact ⟨by simp, k4.be⟩
end Go.Proofs.Ytfbejjobejdenaa.PCodeSays
