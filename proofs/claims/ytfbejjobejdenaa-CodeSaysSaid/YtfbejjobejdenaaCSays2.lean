/- CodeSays: the walk. -/
import Derived.Test.YtfbejjobejdenaaCSays1
set_option linter.unusedVariables false
set_option linter.unusedSimpArgs false
namespace Go.Proofs.Ytfbejjobejdenaa.PCodeSays
open Go.RowKit Go.Proofs.YtfbejjobejdenaaW.PrintWords Go.Proofs.YtfbejjobejdenaaW.PrintLast Go.Proofs.YtfbejjobejdenaaW.PrintMore
attribute [local go_sem high] eqA25 eqA29
namespace Says
/-- One operation of a region taken first, its slot named. -/
theorem take_d {P : Program} {ops : Array Oper} {Q : Exit → Act → World → Prop} {md : Region.Mode} {S : World → Prop} (i d : Nat) {oi : Oper} {v : Value} {fuel : Nat} {listed : Array Bool} {a : Act} {w : World} (hi : ops[i]? = some oi) (hd : oi.dst = some d)
    (hs : Region.noSelect ops = true) (hf : Region.free md ops listed i = true) (hr : (Region.ready md ops listed).contains i = true)
    (hQ : ∀ c a w, Q (.panic c) (a.put (some d) v) w → Q (.panic c) a w) (hw : Region.wanted oi (yielded ops a.tmps) = true) (hy : ∀ w, S w → (execOp a.eval oi).run P w = .ok (.value v) w) (hS : S w)
    (h : wpAnyH P md ops Q S fuel (listed.setIfInBounds i true) (a.put (some d) v) w) : wpAnyH P md ops Q S (fuel + 1) listed a w := by
  refine wpAnyH_take hi hs hf hr ?_ (Or.inl ⟨hw, hy⟩) hS ?_
  · rw [hd]; exact hQ
  · rw [hd]; exact h
/-- One operation of a region that its guard passes over. -/
theorem off_d {P : Program} {ops : Array Oper} {Q : Exit → Act → World → Prop} {md : Region.Mode} {S : World → Prop} (i d : Nat) {oi : Oper} {fuel : Nat} {listed : Array Bool} {a : Act} {w : World} (hi : ops[i]? = some oi) (hd : oi.dst = some d)
    (hs : Region.noSelect ops = true) (hf : Region.free md ops listed i = true) (hr : (Region.ready md ops listed).contains i = true)
    (hQ : ∀ c a w, Q (.panic c) (a.put (some d) undef) w → Q (.panic c) a w) (hw : Region.wanted oi (yielded ops a.tmps) = false) (hS : S w)
    (h : wpAnyH P md ops Q S fuel (listed.setIfInBounds i true) (a.put (some d) undef) w) : wpAnyH P md ops Q S (fuel + 1) listed a w := by
  refine wpAnyH_take hi hs hf hr ?_ (Or.inr ⟨hw, rfl⟩) hS ?_
  · rw [hd]; exact hQ
  · rw [hd]; exact h
/-- The law's own things in its walk: the record's box h, the row in place g. -/
structure Sx (w W : World) (g h : Nat) (cur : List S29) (a b : Int) : Prop where
  be : Below w.heap.size w W
  hg : w.heap.size ≤ g
  hh : w.heap.size ≤ h
  bx : W.heap[h]? = some (.cells #[.int .u64 a, .int .u64 b] 25 (0, 0))
  inn : Inn W g (cur ++ [⟨-7, 9⟩])
  sm : cur.length ≤ 9223372036854775807
theorem Sx.x0 {w W : World} {g h : Nat} {cur : List S29} {a b : Int} (s : Sx w W g h cur a b) : W.cell? ⟨h, 0, none⟩ = some (.int .u64 a) := blk_cell s.bx 0
theorem Sx.x1 {w W : World} {g h : Nat} {cur : List S29} {a b : Int} (s : Sx w W g h cur a b) : W.cell? ⟨h, 1, none⟩ = some (.int .u64 b) := blk_cell s.bx 1
theorem Sx.then {w W W' : World} {g h : Nat} {cur : List S29} {a b : Int} (s : Sx w W g h cur a b) (k : Below W.heap.size W W') : Sx w W' g h cur a b :=
  ⟨s.be.trans (k.mono s.be.size), s.hg, s.hh, blk_below s.bx k, s.inn.below k, s.sm⟩
theorem Sx.row {w W : World} {g h : Nat} {cur : List S29} {a b : Int} (s : Sx w W g h cur a b) : Row W (some ⟨g, 0, none⟩) cur := by
  exact s.inn.row cur (List.prefix_append _ _) s.sm
theorem Sx.cells {w W : World} {g h : Nat} {cur : List S29} {a b : Int} (s : Sx w W g h cur a b) (i : Nat) (hi : i < cur.length) : ∃ x y, W.cell? ⟨g, i * 2, none⟩ = some x ∧ W.cell? ⟨g, i * 2 + 1, none⟩ = some y ∧ W.frozen? ⟨g, i * 2, none⟩ = false ∧ W.frozen? ⟨g, i * 2 + 1, none⟩ = false := by
  obtain ⟨c, hc, hf⟩ := s.inn
  have := s.inn.cell i (cur[i]) (by rw [List.getElem?_append_left hi]; simp [hi])
  exact ⟨_, _, this.1, this.2, blk_frozen hc _, blk_frozen hc _⟩
theorem plain_addr {w : World} {ad : Addr} {v : Value} (h : w.cell? (ad.add 0) = some v) : ad.spot = none := by
  obtain ⟨b, off, spot⟩ := ad
  cases spot with
  | none => rfl
  | some s => simp [Addr.add, World.cell?] at h; split at h <;> simp at h
theorem row_at {w : World} {T : Option Addr} {t : List S29} (h : Row w T t) (i : Nat) (hi : i < t.length) : ∃ tb to_, T = some ⟨tb, to_, none⟩ ∧ tb < w.heap.size ∧ w.cell? ⟨tb, to_ + i * 2, none⟩ = some (.int .i64 t[i].f0) ∧ w.cell? ⟨tb, to_ + i * 2 + 1, none⟩ = some (.int .u64 t[i].f1) := by
  obtain ⟨ad, rfl, hb, hc⟩ := h.2.2 (by omega)
  have h0 := hc 0 _ (by rw [show 0 = 0 * 2 + 0 by rfl, flatS_get t 0 0 (by omega) (by omega)]; rfl)
  have hs := plain_addr h0
  obtain ⟨tb, to_, spot⟩ := ad
  simp only at hs
  subst hs
  have hadd : ∀ j, (⟨tb, to_, none⟩ : Addr).add j = ⟨tb, to_ + j, none⟩ := fun j => by unfold Addr.add; split <;> simp_all
  have c0 := hc (i * 2 + 0) _ (by rw [flatS_get t i 0 hi (by omega)]; rfl)
  have c1 := hc (i * 2 + 1) _ (by rw [flatS_get t i 1 hi (by omega)]; rfl)
  rw [hadd] at c0 c1
  exact ⟨tb, to_, rfl, hb, c0, c1⟩
theorem Sx.set {w W : World} {g h : Nat} {cur : List S29} {a b : Int} (s : Sx w W g h cur a b) (i : Nat) (x : S29) (hi : i < cur.length) :
    Sx w ((W.setCell ⟨g, i * 2, none⟩ (.int .i64 x.f0)).setCell ⟨g, i * 2 + 1, none⟩ (.int .u64 x.f1)) g h (cur.set i x) a b := by
  obtain ⟨c, hc, hf⟩ := s.inn
  have hne : h ≠ g := blk_ne s.bx hc (by decide)
  refine ⟨(s.be.setCell (p := ⟨g, i * 2, none⟩) s.hg _).setCell (p := ⟨g, i * 2 + 1, none⟩) s.hg _, s.hg, s.hh, blk_far (blk_far s.bx hne _) hne _, ?_, by simpa using s.sm⟩
  have := s.inn.set i x (by simp; omega)
  rwa [List.set_append_left _ _ hi] at this
set_option maxRecDepth 100000 in
set_option maxHeartbeats 4000000 in
theorem says_c {w : World} {A T : Option Addr} {l t : List S29} {c ct : Nat} (hl : Row w A l) (ht : Row w T t) (hc : l.length ≤ c) (hct : t.length ≤ ct) (hb : (l.length + 1) * 16 ≤ 140737488355328) (kind a b : Int) :
    Calls Try.prog 3 #[.agg #[.int .i64 kind, .slice A l.length c, .slice T t.length ct, .int .u64 a, .int .u64 b]] w fun e w' => e = .returned (.bool true) ∧ Below w.heap.size w w' := by
  obtain ⟨i0, hi0, hz0, hzs, hz2⟩ := info_parts info29
  obtain ⟨n, hn⟩ : ∃ n, n = l.length := ⟨_, rfl⟩
  rw [← hn] at hc hb ⊢
  have HN := Lib.hid hn
  have HL : Hid (Reads w w.heap.size 2 A n (flatS l)) := by have := hl.2; rw [← hn] at this; exact Lib.hid this
  clear hn hl
  obtain ⟨m, hm⟩ : ∃ m, m = t.length := ⟨_, rfl⟩
  rw [← hm] at hct ⊢
  have HM0 := Lib.hid hm
  clear hm
  have HT := Lib.hid ht
  clear ht
  go_enter Try.func3, Try.ntmps3
  go_upto_region 1 with fail
  go_region
  go_upto_region 2 with fail
  have a2 : Below w.heap.size w ((w.alloc (.cells #[.int .i64 kind, .slice A n c, .slice T m ct, .int .u64 a, .int .u64 b] 27)).alloc (.cells #[.int .u64 a, .int .u64 b] 25)).drew := (((Below.refl _ _).alloc (Nat.le_refl _) _).alloc (by simp) _).drew
  have bx : ((w.alloc (.cells #[.int .i64 kind, .slice A n c, .slice T m ct, .int .u64 a, .int .u64 b] 27)).alloc (.cells #[.int .u64 a, .int .u64 b] 25)).drew.heap[w.heap.size + 1]? = some (.cells #[.int .u64 a, .int .u64 b] 25 (0, 0)) := by
    have e : ∀ W : World, W.drew.heap = W.heap := fun _ => rfl
    rw [e]
    have := heap_alloc_new (w.alloc (.cells #[.int .i64 kind, .slice A n c, .slice T m ct, .int .u64 a, .int .u64 b] 27)) (.cells #[.int .u64 a, .int .u64 b] 25)
    simpa using this
  obtain ⟨h, hh⟩ : ∃ h, h = w.heap.size + 1 := ⟨_, rfl⟩
  obtain ⟨nb, hnb⟩ : ∃ nb, nb = w.heap.size := ⟨_, rfl⟩
  rw [← hh] at bx ⊢
  rw [← hnb]
  rw [← hnb] at hh
  have hBB : w.heap.size ≤ nb := by omega
  have hhn : w.heap.size ≤ h := by omega
  clear hnb hh
  generalize ((w.alloc (.cells #[.int .i64 kind, .slice A n c, .slice T m ct, .int .u64 a, .int .u64 b] 27)).alloc (.cells #[.int .u64 a, .int .u64 b] 25)).drew = W2 at *
  have rl := Lib.hid (HL.out.below a2)
  have f1 := flatS_one l
  have f2 := flatS_one [⟨-7, 9⟩]
  have lit : ∀ w1 : World, Reads (w1.alloc (.cells #[.int .i64 (-7), .int .u64 9] 29)) (w1.heap.size + 1) 2 (some ⟨w1.heap.size, 0, none⟩) 1 (flatS [⟨-7, 9⟩]) := fun w1 => by
    have hh := World.ownsRow_lit (base := 0) (e := 29) (size := 2) w1 #[.int .i64 (-7), .int .u64 9] 1 (by omega) (by decide) (by rfl)
    have := Reads.of_own (xs := flatS [⟨-7, 9⟩]) (by simpa [flatS, cS] using hh)
    simpa using this
  have lit := Lib.hid lit
  have hBW := a2.size
  have bx := Lib.hid bx
  go_upto_region 4 with (first
    | (at_builtin; refine wpList_append_any _ rfl (.tmp 19) (.tmp 20) _ rfl W2.heap.size 29 i0 _ 2 16 Try.underlying22 hi0 hz0 hzs hz2 rfl (by omega) (.slice (some ⟨W2.heap.size, 0, none⟩) 0 0) 0 [] rfl (World.ownsRow_made W2 #[] 0 (Nat.le_refl _) (by decide) (by rfl)) w.heap.size A n c (flatS l) rfl (rl.out.alloc hBW _) f1 (by unfold maxLen; omega) (by omega) (by simp) ?_; intro v1 w1 hown1 hgrow1 hat1; obtain ⟨a1, c1, rfl⟩ := own_shape hown1
       have q1 : Below W2.heap.size W2 w1 := ((Below.refl _ _).alloc (Nat.le_refl _) _).grown hgrow1 (by simp) (fun k hk => by simp [Value.ownBlock] at hk; omega)
       simp only [Nat.zero_add, List.nil_append] at hown1)
    | (at_builtin; refine wpList_append_any _ rfl (.tmp 21) (.tmp 23) _ rfl W2.heap.size 29 i0 _ 2 16 Try.underlying22 hi0 hz0 hzs hz2 rfl (by omega) (.slice a1 n c1) n (flatS l) rfl (own_below hown1 ((Below.refl _ _).alloc (Nat.le_refl _) _)) (w1.heap.size + 1) (some ⟨w1.heap.size, 0, none⟩) 1 1 (flatS [⟨-7, 9⟩]) rfl (lit.out w1) f2 (by unfold maxLen; omega) (by omega) (by simp; have := q1.size; omega) ?_; intro v2 w2 hown2 hgrow2 hat2; obtain ⟨a3, c2, rfl⟩ := own_shape hown2))
  have q2 : Below W2.heap.size W2 w2 := (q1.alloc q1.size _).grown hgrow2 (by simp; have := q1.size; omega) (fun k hk => (hown1.lt k hk).1)
  have hown2 : w2.ownsRow W2.heap.size 29 2 (.slice a3 (n + 1) c2) (n + 1) (flatS (l ++ [⟨-7, 9⟩])) := by rw [flatS_append]; exact hown2
  obtain ⟨g, rfl, hgW, hnc1, hc2, hinn⟩ := Inn.of_own hown2 (by omega)
  have hnc2 : n ≤ c2 := by omega
  have S0 : Sx w w2 g h l a b := ⟨a2.trans (q2.mono hBW), by omega, hhn, blk_below bx.out q2, hinn, by have := HN.out; omega⟩
  clear lit bx
  clear hown2 hinn q2 hgrow2 hat2 hown1 hat1 hgrow1 q1 lit bx rl
  have hT0 : ∀ W, Below w.heap.size w W → Row W T t := fun W hW => HT.out.below hW
  have hT0 := Lib.hid hT0
  unfold maxLen at hc2
  go_loopw [8] (fun s8 wr => ∃ (k : Nat) (cur : List S29), s8 = .int .i64 k ∧ k ≤ 2 ∧ Hid (n = cur.length) ∧ Sx w wr g h cur a b) (fun s8 _ => 2 - (intOf s8).toNat)
  case atStart => exact ⟨0, l, rfl, by omega, HN, S0⟩
  case round =>
    obtain ⟨k, cur, rfl, hk, HC, S1⟩ := hrel
    clear S0
    by_cases hlt : k < 2
    · have S2 := S1.then ((Below.refl _ _).alloc (Nat.le_refl _) (.cells #[] 29))
      have hcb := S1.be.size
      have rr : Hid (Reads (wr.alloc (.cells #[] 29)) (wr.heap.size + 1) 2 (some ⟨g, 0, none⟩) n (flatS cur)) := by
        have := S2.row.2
        rw [← HC.out] at this
        simpa using Lib.hid this
      have fc := flatS_one cur
      go_upto_region 7 with (at_builtin; refine wpList_append_any _ rfl (.tmp 29) (.tmp 33) _ rfl wr.heap.size 29 i0 _ 2 16 Try.underlying22 hi0 hz0 hzs hz2 rfl (by omega) (.slice (some ⟨wr.heap.size, 0, none⟩) 0 0) 0 [] rfl (World.ownsRow_made wr #[] 0 (Nat.le_refl _) (by decide) (by rfl)) (wr.heap.size + 1) (some ⟨g, 0, none⟩) n c2 (flatS cur) rfl rr.out fc (by unfold maxLen; omega) (by omega) (by simp) ?_; intro v1 w1 hown1 hgrow1 hat1; obtain ⟨an, cn, rfl⟩ := own_shape hown1)
      have b9 : Below wr.heap.size wr w1 := ((Below.refl _ _).alloc (Nat.le_refl _) _).grown hgrow1 (by simp) (fun k hk => by simp [Value.ownBlock] at hk; omega)
      have S3 := S1.then b9
      simp only [Nat.zero_add, List.nil_append] at hown1
      have nowr : Row w1 an cur ∧ n ≤ cn := by
        have := HC.out
        rw [this] at hown1 ⊢
        exact Row.of_own hown1
      obtain ⟨nowr, hnc⟩ := nowr
      clear hown1 hgrow1 hat1 rr S1 S2 b9 hcb fc
      go_cut [68] (fun s wx => s = .bool false ∧ Sx w wx g h cur a b ∧ Row wx an cur)
      case first =>
        have k0 := S3.then ((Below.refl _ _).drew)
        have nowr := nowr.below ((Below.refl _ _).drew)
        obtain ⟨z, hz⟩ : ∃ z, z = chk kind cur := ⟨_, rfl⟩
        have HZ := Lib.hid hz.symm
        obtain ⟨xy, hxy⟩ : ∃ xy, xy = mapP cur (a, b) := ⟨_, rfl⟩
        obtain ⟨x, y⟩ := xy
        have HM := Lib.hid hxy.symm
        obtain ⟨pp, hp⟩ : ∃ z, z = passP cur (a, b) := ⟨_, rfl⟩
        have HP := Lib.hid hp.symm
        clear hz hxy hp S3
        refine wp_region_held_drew (S := fun w' => w'.cell? ⟨h, 0, none⟩ = some (.int .u64 a) ∧ w'.cell? ⟨h, 1, none⟩ = some (.int .u64 b)) (by kernel_rfl) ⟨k0.x0, k0.x1⟩ (fun hHeld => ?_)
        refine take_d (v := ?_) 0 35 rfl rfl (by kernel_rfl) (by kernel_rfl) (by kernel_rfl) (fun _ _ _ h => h) (by kernel_rfl) ?_ (by assumption) ?_
        rotate_left
        · (intro w hSw; (try dsimp only at hSw); go_simp; first | done | with_reducible rfl)
        try simp only [Act.put, List.setIfInBounds_toArray, List.set_cons_zero, List.set_cons_succ]
        refine take_d (v := ?_) 1 36 rfl rfl (by kernel_rfl) (by kernel_rfl) (by kernel_rfl) (fun _ _ _ h => h) (by kernel_rfl) ?_ (by assumption) ?_
        rotate_left
        · (intro w hSw; (try dsimp only at hSw); go_simp; first | done | with_reducible rfl)
        try simp only [Act.put, List.setIfInBounds_toArray, List.set_cons_zero, List.set_cons_succ]
        refine take_d (v := ?_) 2 37 rfl rfl (by kernel_rfl) (by kernel_rfl) (by kernel_rfl) (fun _ _ _ h => h) (by kernel_rfl) ?_ (by assumption) ?_
        rotate_left
        · (intro w hSw; (try dsimp only at hSw); go_simp; first | done | with_reducible rfl)
        try simp only [Act.put, List.setIfInBounds_toArray, List.set_cons_zero, List.set_cons_succ]
        refine take_d (v := ?_) 3 38 rfl rfl (by kernel_rfl) (by kernel_rfl) (by kernel_rfl) (fun _ _ _ h => h) (by kernel_rfl) ?_ (by assumption) ?_
        rotate_left
        · (intro w hSw; (try dsimp only at hSw); go_simp; first | done | with_reducible rfl)
        try simp only [Act.put, List.setIfInBounds_toArray, List.set_cons_zero, List.set_cons_succ]
        refine take_d (v := ?_) 4 39 rfl rfl (by kernel_rfl) (by kernel_rfl) (by kernel_rfl) (fun _ _ _ h => h) (by kernel_rfl) ?_ (by assumption) ?_
        rotate_left
        · (intro w hSw; (try dsimp only at hSw); go_simp; first | done | with_reducible rfl)
        try simp only [Act.put, List.setIfInBounds_toArray, List.set_cons_zero, List.set_cons_succ]
        refine take_d (v := ?_) 6 41 rfl rfl (by kernel_rfl) (by kernel_rfl) (by kernel_rfl) (fun _ _ _ h => h) (by kernel_rfl) ?_ (by assumption) ?_
        rotate_left
        · (intro w hSw; (try dsimp only at hSw); go_simp; first | done | with_reducible rfl)
        try simp only [Act.put, List.setIfInBounds_toArray, List.set_cons_zero, List.set_cons_succ]
        refine take_d (v := ?_) 7 42 rfl rfl (by kernel_rfl) (by kernel_rfl) (by kernel_rfl) (fun _ _ _ h => h) (by kernel_rfl) ?_ (by assumption) ?_
        rotate_left
        · (intro w hSw; (try dsimp only at hSw); go_simp; first | done | with_reducible rfl)
        try simp only [Act.put, List.setIfInBounds_toArray, List.set_cons_zero, List.set_cons_succ]
        refine wpAnyH_ready (rs := [5]) (by kernel_rfl) (by simp) ?_
        refine AllReadyH.cons rfl (fun K hK => ?_) AllReadyH.nil
        go_simp
        (go_at_call 8; refine (check_n kind k0.row HC hnc2 HZ.out).mono ?_; rintro e w1 ⟨rfl, b1⟩; have k1 := k0.then b1; have n1 := nowr.below b1)
        go_wp2_with fail
        refine hK.out _ _ ⟨k1.x0, k1.x1⟩ (fun hHeld => ?_)
        clear hK K
        try simp only [Act.put, List.setIfInBounds_toArray, List.set_cons_zero, List.set_cons_succ]
        refine wpAnyH_ready (rs := [8]) (by kernel_rfl) (by simp) ?_
        refine AllReadyH.cons rfl (fun K hK => ?_) AllReadyH.nil
        go_simp
        (go_at_call 9; refine (rcheck_n kind n1 HC hnc HZ.out).mono ?_; rintro e w2 ⟨rfl, b2⟩; have k2 := k1.then b2; have n2 := n1.below b2)
        go_wp2_with fail
        refine hK.out _ _ ⟨k2.x0, k2.x1⟩ (fun hHeld => ?_)
        clear hK K
        try simp only [Act.put, List.setIfInBounds_toArray, List.set_cons_zero, List.set_cons_succ]
        refine take_d (v := ?_) 9 44 rfl rfl (by kernel_rfl) (by kernel_rfl) (by kernel_rfl) (fun _ _ _ h => h) (by kernel_rfl) ?_ (by assumption) ?_
        rotate_left
        · (intro w hSw; (try dsimp only at hSw); go_simp; first | done | with_reducible rfl)
        try simp only [Act.put, List.setIfInBounds_toArray, List.set_cons_zero, List.set_cons_succ]
        refine take_d (v := ?_) 10 45 rfl rfl (by kernel_rfl) (by kernel_rfl) (by kernel_rfl) (fun _ _ _ h => h) (by kernel_rfl) ?_ (by assumption) ?_
        rotate_left
        · (intro w hSw; (try dsimp only at hSw); go_simp; first | done | with_reducible rfl)
        try simp only [Act.put, List.setIfInBounds_toArray, List.set_cons_zero, List.set_cons_succ]
        refine take_d (v := ?_) 11 46 rfl rfl (by kernel_rfl) (by kernel_rfl) (by kernel_rfl) (fun _ _ _ h => h) (by kernel_rfl) ?_ (by assumption) ?_
        rotate_left
        · (intro w hSw; (try dsimp only at hSw); go_simp; first | done | with_reducible rfl)
        try simp only [Act.put, List.setIfInBounds_toArray, List.set_cons_zero, List.set_cons_succ]
        refine take_d (v := ?_) 12 47 rfl rfl (by kernel_rfl) (by kernel_rfl) (by kernel_rfl) (fun _ _ _ h => h) (by kernel_rfl) ?_ (by assumption) ?_
        rotate_left
        · (intro w hSw; (try dsimp only at hSw); go_simp; first | done | with_reducible rfl)
        try simp only [Act.put, List.setIfInBounds_toArray, List.set_cons_zero, List.set_cons_succ]
        refine take_d (v := ?_) 13 48 rfl rfl (by kernel_rfl) (by kernel_rfl) (by kernel_rfl) (fun _ _ _ h => h) (by kernel_rfl) ?_ (by assumption) ?_
        rotate_left
        · (intro w hSw; (try dsimp only at hSw); go_simp; first | done | with_reducible rfl)
        try simp only [Act.put, List.setIfInBounds_toArray, List.set_cons_zero, List.set_cons_succ]
        refine take_d (v := ?_) 14 49 rfl rfl (by kernel_rfl) (by kernel_rfl) (by kernel_rfl) (fun _ _ _ h => h) (by kernel_rfl) ?_ (by assumption) ?_
        rotate_left
        · (intro w hSw; (try dsimp only at hSw); go_simp; first | done | with_reducible rfl)
        try simp only [Act.put, List.setIfInBounds_toArray, List.set_cons_zero, List.set_cons_succ]
        refine take_d (v := ?_) 15 50 rfl rfl (by kernel_rfl) (by kernel_rfl) (by kernel_rfl) (fun _ _ _ h => h) (by kernel_rfl) ?_ (by assumption) ?_
        rotate_left
        · (intro w hSw; (try dsimp only at hSw); go_simp; first | done | with_reducible rfl)
        try simp only [Act.put, List.setIfInBounds_toArray, List.set_cons_zero, List.set_cons_succ]
        refine take_d (v := ?_) 17 52 rfl rfl (by kernel_rfl) (by kernel_rfl) (by kernel_rfl) (fun _ _ _ h => h) (by kernel_rfl) ?_ (by assumption) ?_
        rotate_left
        · (intro w hSw; (try dsimp only at hSw); go_simp; first | done | with_reducible rfl)
        try simp only [Act.put, List.setIfInBounds_toArray, List.set_cons_zero, List.set_cons_succ]
        refine take_d (v := ?_) 18 53 rfl rfl (by kernel_rfl) (by kernel_rfl) (by kernel_rfl) (fun _ _ _ h => h) (by kernel_rfl) ?_ (by assumption) ?_
        rotate_left
        · (intro w hSw; (try dsimp only at hSw); go_simp; first | done | with_reducible rfl)
        try simp only [Act.put, List.setIfInBounds_toArray, List.set_cons_zero, List.set_cons_succ]
        refine wpAnyH_ready (rs := [16]) (by kernel_rfl) (by simp) ?_
        refine AllReadyH.cons rfl (fun K hK => ?_) AllReadyH.nil
        go_simp
        (go_at_call 10; refine (map_n k2.row HC hnc2 HM.out).mono ?_; rintro e w3 ⟨rfl, b3⟩; have k3 := k2.then b3; have n3 := n2.below b3)
        go_wp2_with fail
        refine hK.out _ _ ⟨k3.x0, k3.x1⟩ (fun hHeld => ?_)
        clear hK K
        try simp only [Act.put, List.setIfInBounds_toArray, List.set_cons_zero, List.set_cons_succ]
        refine wpAnyH_ready (rs := [19]) (by kernel_rfl) (by simp) ?_
        refine AllReadyH.cons rfl (fun K hK => ?_) AllReadyH.nil
        go_simp
        (go_at_call 11; refine (rmap_n n3 HC hnc HM.out).mono ?_; rintro e w4 ⟨rfl, b4⟩; have k4 := k3.then b4; have n4 := n3.below b4)
        go_wp2_with fail
        refine hK.out _ _ ⟨k4.x0, k4.x1⟩ (fun hHeld => ?_)
        clear hK K
        try simp only [Act.put, List.setIfInBounds_toArray, List.set_cons_zero, List.set_cons_succ]
        refine take_d (v := ?_) 20 55 rfl rfl (by kernel_rfl) (by kernel_rfl) (by kernel_rfl) (fun _ _ _ h => h) (by kernel_rfl) ?_ (by assumption) ?_
        rotate_left
        · (intro w hSw; (try dsimp only at hSw); go_simp; first | done | with_reducible rfl)
        try simp only [Act.put, List.setIfInBounds_toArray, List.set_cons_zero, List.set_cons_succ]
        refine take_d (v := ?_) 21 56 rfl rfl (by kernel_rfl) (by kernel_rfl) (by kernel_rfl) (fun _ _ _ h => h) (by kernel_rfl) ?_ (by assumption) ?_
        rotate_left
        · (intro w hSw; (try dsimp only at hSw); go_simp; first | done | with_reducible rfl)
        try simp only [Act.put, List.setIfInBounds_toArray, List.set_cons_zero, List.set_cons_succ]
        refine take_d (v := ?_) 22 57 rfl rfl (by kernel_rfl) (by kernel_rfl) (by kernel_rfl) (fun _ _ _ h => h) (by kernel_rfl) ?_ (by assumption) ?_
        rotate_left
        · (intro w hSw; (try dsimp only at hSw); go_simp; first | done | with_reducible rfl)
        try simp only [Act.put, List.setIfInBounds_toArray, List.set_cons_zero, List.set_cons_succ]
        refine take_d (v := ?_) 23 58 rfl rfl (by kernel_rfl) (by kernel_rfl) (by kernel_rfl) (fun _ _ _ h => h) (by kernel_rfl) ?_ (by assumption) ?_
        rotate_left
        · (intro w hSw; (try dsimp only at hSw); go_simp; first | done | with_reducible rfl)
        try simp only [Act.put, List.setIfInBounds_toArray, List.set_cons_zero, List.set_cons_succ]
        refine take_d (v := ?_) 24 59 rfl rfl (by kernel_rfl) (by kernel_rfl) (by kernel_rfl) (fun _ _ _ h => h) (by kernel_rfl) ?_ (by assumption) ?_
        rotate_left
        · (intro w hSw; (try dsimp only at hSw); go_simp; first | done | with_reducible rfl)
        try simp only [Act.put, List.setIfInBounds_toArray, List.set_cons_zero, List.set_cons_succ]
        refine take_d (v := ?_) 25 60 rfl rfl (by kernel_rfl) (by kernel_rfl) (by kernel_rfl) (fun _ _ _ h => h) (by kernel_rfl) ?_ (by assumption) ?_
        rotate_left
        · (intro w hSw; (try dsimp only at hSw); go_simp; first | done | with_reducible rfl)
        try simp only [Act.put, List.setIfInBounds_toArray, List.set_cons_zero, List.set_cons_succ]
        refine take_d (v := ?_) 26 61 rfl rfl (by kernel_rfl) (by kernel_rfl) (by kernel_rfl) (fun _ _ _ h => h) (by kernel_rfl) ?_ (by assumption) ?_
        rotate_left
        · (intro w hSw; (try dsimp only at hSw); go_simp; first | done | with_reducible rfl)
        try simp only [Act.put, List.setIfInBounds_toArray, List.set_cons_zero, List.set_cons_succ]
        refine take_d (v := ?_) 27 62 rfl rfl (by kernel_rfl) (by kernel_rfl) (by kernel_rfl) (fun _ _ _ h => h) (by kernel_rfl) ?_ (by assumption) ?_
        rotate_left
        · (intro w hSw; (try dsimp only at hSw); go_simp; first | done | with_reducible rfl)
        try simp only [Act.put, List.setIfInBounds_toArray, List.set_cons_zero, List.set_cons_succ]
        refine take_d (v := ?_) 29 64 rfl rfl (by kernel_rfl) (by kernel_rfl) (by kernel_rfl) (fun _ _ _ h => h) (by kernel_rfl) ?_ (by assumption) ?_
        rotate_left
        · (intro w hSw; (try dsimp only at hSw); go_simp; first | done | with_reducible rfl)
        try simp only [Act.put, List.setIfInBounds_toArray, List.set_cons_zero, List.set_cons_succ]
        refine take_d (v := ?_) 30 65 rfl rfl (by kernel_rfl) (by kernel_rfl) (by kernel_rfl) (fun _ _ _ h => h) (by kernel_rfl) ?_ (by assumption) ?_
        rotate_left
        · (intro w hSw; (try dsimp only at hSw); go_simp; first | done | with_reducible rfl)
        try simp only [Act.put, List.setIfInBounds_toArray, List.set_cons_zero, List.set_cons_succ]
        refine wpAnyH_ready (rs := [28]) (by kernel_rfl) (by simp) ?_
        refine AllReadyH.cons rfl (fun K hK => ?_) AllReadyH.nil
        go_simp
        (go_at_call 12; refine (pass_n k4.row HC hnc2 HP.out).mono ?_; rintro e w5 ⟨rfl, b5⟩; have k5 := k4.then b5; have n5 := n4.below b5)
        go_wp2_with fail
        refine hK.out _ _ ⟨k5.x0, k5.x1⟩ (fun hHeld => ?_)
        clear hK K
        try simp only [Act.put, List.setIfInBounds_toArray, List.set_cons_zero, List.set_cons_succ]
        refine wpAnyH_ready (rs := [31]) (by kernel_rfl) (by simp) ?_
        refine AllReadyH.cons rfl (fun K hK => ?_) AllReadyH.nil
        go_simp
        (go_at_call 13; refine (rpass_n n5 HC hnc HP.out).mono ?_; rintro e w6 ⟨rfl, b6⟩; have k6 := k5.then b6; have n6 := n5.below b6)
        go_wp2_with fail
        refine hK.out _ _ ⟨k6.x0, k6.x1⟩ (fun hHeld => ?_)
        clear hK K
        try simp only [Act.put, List.setIfInBounds_toArray, List.set_cons_zero, List.set_cons_succ]
        refine take_d (v := ?_) 32 67 rfl rfl (by kernel_rfl) (by kernel_rfl) (by kernel_rfl) (fun _ _ _ h => h) (by kernel_rfl) ?_ (by assumption) ?_
        rotate_left
        · (intro w hSw; (try dsimp only at hSw); go_simp; first | done | with_reducible rfl)
        try simp only [Act.put, List.setIfInBounds_toArray, List.set_cons_zero, List.set_cons_succ]
        refine take_d (v := ?_) 33 68 rfl rfl (by kernel_rfl) (by kernel_rfl) (by kernel_rfl) (fun _ _ _ h => h) (by kernel_rfl) ?_ (by assumption) ?_
        rotate_left
        · (intro w hSw; (try dsimp only at hSw); go_simp; first | done | with_reducible rfl)
        try simp only [Act.put, List.setIfInBounds_toArray, List.set_cons_zero, List.set_cons_succ]
        refine wpAnyH_done (by kernel_rfl) ?_ _
        go_wp2_with fail
        go_meet
        exact ⟨by simp, k6, n6⟩
      case rest =>
      obtain ⟨rfl, S4, nowr⟩ := hcut
      clear S3
      have e0 := (S4.inn.cell n ⟨-7, 9⟩ (by rw [HC.out]; simp)).1
      have e1 := (S4.inn.cell n ⟨-7, 9⟩ (by rw [HC.out]; simp)).2
      simp only at e0 e1
      go_upto_region 11 with (go_at_call 14; refine (same_n S4.row nowr HC hnc2 hnc).mono ?_; rintro e w8 ⟨rfl, b8⟩; have S5 := S4.then b8; have g0 := (S5.inn.cell n ⟨-7, 9⟩ (by rw [HC.out]; simp)).1; have g1 := (S5.inn.cell n ⟨-7, 9⟩ (by rw [HC.out]; simp)).2; simp only at g0 g1; clear S4 e0 e1)
      clear g0 g1 nowr
      go_wp2
      go_loopw [10] (fun s10 wz => ∃ (i : Nat) (cur2 : List S29), s10 = .int .i64 i ∧ i ≤ n ∧ Hid (n = cur2.length) ∧ Sx w wz g h cur2 a b) (fun s10 _ => n - (intOf s10).toNat)
      case atStart => exact ⟨0, cur, rfl, by omega, HC, S5⟩
      case round =>
        clear S5 HC
        obtain ⟨i, cur2, rfl, hi, HC, S6⟩ := hrel
        by_cases hin : i < n
        · by_cases him : i < m
          · obtain ⟨tb, toff, hTe, htl, t0, t1⟩ := row_at (hT0.out _ S6.be) i (by rw [← HM0.out]; exact him)
            obtain ⟨X, hX⟩ : ∃ X, X = t[i]'(by rw [← HM0.out]; exact him) := ⟨_, rfl⟩
            rw [← hX] at t0 t1
            clear hX
            obtain ⟨x0, y0, z0, z1, q0, q1⟩ := S6.cells i (by rw [← HC.out]; exact hin)
            have S7 := S6.set i X (by rw [← HC.out]; exact hin)
            have HS7 := Lib.hid S7
            have HS6 := Lib.hid S6
            have HTe := Lib.hid hTe
            clear S7 S6
            obtain rfl := HTe.out
            clear hTe HTe
            go_wp2
            go_roundw
            case rel => exact ⟨i + 1, _, by go_num, by omega, (by have := HC.out; exact Lib.hid (by simpa using this)), HS7.out⟩
            case measure => simp [intOf]; omega
          · go_wp2
            exact ⟨⟨k + 1, cur2, by simp, by omega, HC, S6⟩, by simp [intOf]; omega⟩
        · go_wp2
          exact ⟨⟨k + 1, cur2, by simp, by omega, HC, S6⟩, by simp [intOf]; omega⟩
    · go_wp2_with (go_at_call 15; refine (known_c _).mono ?_; rintro e w9 ⟨rfl, b9⟩)
      go_ret
      exact ⟨rfl, (S1.then b9).be⟩
end Says
end Go.Proofs.Ytfbejjobejdenaa.PCodeSays
