/- ChainCuts: the walk. -/
import Derived.Test.YthchppnfffllnaaCPKnown
set_option linter.unusedVariables false
set_option linter.unusedSimpArgs false
namespace Go.Proofs.Ythchppnfffllnaa
open Go.RowKit PChainScript
namespace CP
set_option maxHeartbeats 1000000 in
theorem join_empty (hb : Nat) (w : World) : Calls Try.prog 27 #[.pointer (some ⟨hb, 0, none⟩), .slice none 0 0] w fun e w' => e = .returned (.int .i64 0) ∧ Below w.heap.size w w' := by
  go_enter Try.func27, Try.ntmps27
  go_wp2_with fail
  refine wp_loop_rounds 1 ?_
  rw [rounds_succ]
  go_wp2_with fail
  go_ret
  exact ⟨rfl, Below.refl _ _⟩
/-- Join of a row that was made behind the chain. -/
theorem join_own {fb ff : Nat} {r f : S35 → S35 → Bool} (hr : Rel fb r) (hf : Rel ff f) {B Bx : Nat} {w : World} {hb : Nat} {v : Value} {l xs : List S35} (H : Chain B w hb fb ff v l) (hB : B ≤ w.heap.size) {a : Option Addr} {n c : Nat}
    (ho : Own Bx w (.slice a n c) n xs) (hh : hb < Bx) (hv : ∀ k, v.ownBlock = some k → k < Bx) (hl : (l.length + n) * 16 ≤ 140737488355328) :
    Calls Try.prog 27 #[.pointer (some ⟨hb, 0, none⟩), .slice a n c] w fun e w' => e = .returned (.int .i64 (came r f xs l)) ∧ ∃ v', Chain B w' hb fb ff v' (joinL r f xs l) ∧ Fr w w' hb v.ownBlock ∧ (v'.ownBlock = v.ownBlock ∨ ∃ b, v'.ownBlock = some b ∧ w.heap.size ≤ b) := by
  have hn := ho.len
  have hr0 := Reads.of_own ho
  rcases ho.2 with ⟨hq, h0⟩ | ⟨g, cap, cur, hq, hg, hk, hc, hm, _⟩
  · injection hq with h1 h2 h3
    subst h1; subst h2; subst h3
    obtain rfl : xs = [] := List.eq_nil_of_length_eq_zero hn.symm
    refine (join_empty hb w).mono ?_
    rintro e w' ⟨rfl, b⟩
    exact ⟨rfl, v, H.below b, Fr.of_below b _ _, .inl rfl⟩
  · injection hq with h1 h2 h3
    subst h1; subst h3
    exact join_c hr hf H hB hr0 hn hc (blk_lt hk) (by omega) (fun e => by have := hv g e.symm; omega) hl
theorem own_cap {B : Nat} {w : World} {a : Option Addr} {n c : Nat} {l : List S35} (ho : Own B w (.slice a n c) n l) : n ≤ c := by
  rcases Nat.eq_zero_or_pos n with h | h
  · omega
  · obtain ⟨g, k', hv, _, _, hk, hm⟩ := Own.form ho h
    injection hv with _ _ h3
    omega
theorem list_n {B : Nat} {w : World} {hb fb ff n : Nat} {v : Value} {l : List S35} (H : Chain B w hb fb ff v l) (hn : Hid (n = l.length)) (hl : n * 16 ≤ 140737488355328) :
    Calls Try.prog 18 #[.pointer (some ⟨hb, 0, none⟩)] w fun e w' => ∃ a k, e = .returned (.slice a n k) ∧ Own w.heap.size w' (.slice a n k) n l ∧ n ≤ k ∧ Below w.heap.size w w' := by
  obtain rfl := hn.out
  refine (list_c H hl).mono ?_
  rintro e w' ⟨v', rfl, o, b⟩
  obtain ⟨a, k, rfl⟩ := own_shape o
  exact ⟨a, k, rfl, o, own_cap o, b⟩
theorem cut_same {fb : Nat} {r : S35 → S35 → Bool} (hr : Rel fb r) {B : Nat} {w : World} {hb ff : Nat} {v : Value} {l : List S35} (H : Chain B w hb fb ff v l) (x : S35) (hl : l.length ≤ 140737488355328) (h : cutL r x l = l) :
    Calls Try.prog 16 #[.pointer (some ⟨hb, 0, none⟩), vt x] w fun e w' => e = .returned (.int .i64 0) ∧ ∃ v', Chain B w' hb fb ff v' l ∧ Fr w w' hb v.ownBlock := by
  refine (cut_c hr H x hl).mono ?_
  rintro e w' ⟨rfl, v', H', F', _⟩
  rw [h] at H' ⊢
  exact ⟨by simp, v', H', F'⟩
theorem cutL_twice (r : S35 → S35 → Bool) (x : S35) (l : List S35) : cutL r x (cutL r x l) = cutL r x l := by simp [cutL]
set_option maxRecDepth 100000 in
set_option maxHeartbeats 4000000 in
theorem cuts_c {w : World} {A : Option Addr} {n c : Nat} {l : List S35} (hr : Reads w w.heap.size 2 A n (flat l)) (hn : n = l.length) (hl : (n + 1) * 16 ≤ 140737488355328) (hnc : n ≤ c) (kind : Int) (x : S35) :
    Calls Try.prog 6 #[.int .i64 kind, .slice A n c, vt x] w fun e w' => e = .returned (.bool true) ∧ Below w.heap.size w w' := by
  obtain ⟨i0, hi0, hz0, hz1, hz2⟩ := info_parts info
  have f1 := flat_one l
  have HN := Lib.hid hn
  have HR := Lib.hid hr
  have hkk := kindOf_in kind
  obtain ⟨kk, hkq⟩ : ∃ kk, kk = kindOf kind := ⟨_, rfl⟩
  have HK := Lib.hid hkq
  rw [← hkq] at hkk
  clear hn hr hkq
  obtain ⟨x0, x1⟩ := x
  go_enter Try.func6, Try.ntmps6
  go_upto_region 1 with fail
  have b1 : Below w.heap.size w (w.alloc (.cells #[.int .i64 x0, .int .i64 x1] 35)) := (Below.refl _ _).alloc (Nat.le_refl _) _
  have gx := heap_alloc_new w (.cells #[.int .i64 x0, .int .i64 x1] 35)
  obtain ⟨vb, hvb⟩ : ∃ vb, vb = w.heap.size := ⟨_, rfl⟩
  have HV := Lib.hid hvb
  rw [← hvb] at gx ⊢
  clear hvb
  have hr1 := Lib.hid (HR.out.below b1)
  generalize (w.alloc (.cells #[.int .i64 x0, .int .i64 x1] 35)) = W1 at *
  have hlb : w.heap.size ≤ W1.heap.size := b1.size
  obtain ⟨B, hB⟩ : ∃ B, B = W1.heap.size := ⟨_, rfl⟩
  have hvB : vb < B := by rw [hB]; exact blk_lt gx
  have hbB : w.heap.size ≤ B := by omega
  have c1 : Below B W1 W1 := Below.refl _ _
  have hB1 : B ≤ W1.heap.size := by omega
  have hrB : Hid (∀ W, Below B W1 W → Reads W W.heap.size 2 A n (flat l)) := Lib.hid (fun W hW => ((hr1.out.more hbB).below hW).more (by have := hW.size; omega))
  have hxB : Hid (∀ W, Below B W1 W → W.cell? ⟨vb, 0, none⟩ = some (.int .i64 x0) ∧ W.cell? ⟨vb, 1, none⟩ = some (.int .i64 x1)) := Lib.hid (fun W hW => ⟨(hW.cell (p := ⟨vb, 0, none⟩) hvB).trans (blk_cell gx 0), (hW.cell (p := ⟨vb, 1, none⟩) hvB).trans (blk_cell gx 1)⟩)
  have Hend : Hid (∀ W, Below B W1 W → Below w.heap.size w W) := Lib.hid (fun W hW => b1.trans (hW.mono hbB))
  clear gx hr1 HR b1 hlb hB
  have hz : ∀ {W : World}, Below B W1 W → B ≤ W.heap.size := fun h => Nat.le_trans hB1 h.size
  have stb : ∀ {W W' : World}, Below B W1 W → Below W.heap.size W W' → Below B W1 W' := fun c b => c.trans (b.mono (hz c))
  go_upto_region 2 with (go_at_call 9; refine (kinds_c kind _).mono ?_; rintro e w2 ⟨rfl, b2⟩; rw [← HK.out])
  have c2 := stb c1 b2
  clear c1 b2
  go_upto_region 3 with (go_at_call 10; refine (made_c _ B (hz c2) kk hkk).mono ?_; rintro e w3 ⟨hb, fb, ff, rfl, hhb, H3, b3, rfb, rff⟩)
  have c3 := stb c2 b3
  have RB := Lib.hid rfb
  have RF := Lib.hid rff
  clear c2 b3 hhb rfb rff
  go_upto_region 5 with (go_at_call 8; refine (known_c _).mono ?_; rintro e w4 ⟨rfl, b4⟩)
  have c4 := stb c3 b4
  have H4 := H3.below b4
  have hlt4 := blk_lt H4.blk
  have hr4 := Lib.hid ((hrB.out _ c4).alloc (Nat.le_refl _) (.cells #[] 35))
  clear c3 b4 H3
  go_upto_region 6 with (first
    | (at_builtin; refine wpList_append_any _ rfl (.tmp 23) (.tmp 24) _ rfl w4.heap.size 35 i0 _ 2 16 Try.underlying29 hi0 hz0 hz1 hz2 rfl (by omega) (.slice (some ⟨w4.heap.size, 0, none⟩) 0 0) 0 [] rfl (World.ownsRow_made w4 #[] 0 (Nat.le_refl _) (by decide) (by rfl)) w4.heap.size A n c (flat l) rfl hr4.out f1 (by unfold maxLen; omega) (by omega) (by simp) ?_; intro v5 w5 hown5 hgrow5 hat5; obtain ⟨a5, k5, rfl⟩ := own_shape hown5
       have b5 : Below w4.heap.size w4 w5 := ((Below.refl _ _).alloc (Nat.le_refl _) _).grown hgrow5 (by simp) (fun k hk => by simp [Value.ownBlock] at hk; omega)
       simp only [Nat.zero_add, List.nil_append] at hown5
       have c5 := stb c4 b5; have H5 := H4.below b5)
    | (go_at_call 27; refine (join_own RB.out RF.out H5 (hz c5) (Bx := w4.heap.size) (xs := l) hown5 hlt4 (by intro k hk; simp [Value.ownBlock] at hk) (by simp; omega)).mono ?_; rintro e w6 ⟨rfl, v6, H6, F6, _⟩; have c6 := c5.trans (fr_low H5 (hz c5) F6)))
  clear c5 H5 hown5 F6 hat5 hgrow5 b5 c4 H4 hr4
  have hJl : (joinL (bel kk) (fst kk) l []).length ≤ n := by have := joinL_length (bel kk) (fst kk) l []; rw [HN.out]; simpa using this
  obtain ⟨J, hJ⟩ : ∃ J, J = joinL (bel kk) (fst kk) l [] := ⟨_, rfl⟩
  rw [← hJ] at H6 hJl
  clear hJ
  obtain ⟨nq, hnq⟩ : ∃ nq : Int, nq = (came (bel kk) (fst kk) l [] : Int) := ⟨_, rfl⟩
  rw [← hnq]
  clear hnq
  have hJb : J.length * 16 ≤ 140737488355328 := by omega
  go_upto_region 7 with (go_at_call 18; refine (list_c H6 hJb).mono ?_; rintro e w7 ⟨v7, rfl, o7, b7⟩; obtain ⟨a7, k7, rfl⟩ := own_shape o7)
  have c7 := stb c6 b7
  have H7 := H6.below b7
  have hn7 : (Value.slice a7 J.length k7).ownBlock ≠ some hb := fun e => by have := (o7.lt hb e).1; have := blk_lt H6.blk; omega
  have hv7 : (Value.slice a7 J.length k7).ownBlock = none ∨ (Value.slice a7 J.length k7).ownBlock ≠ v6.ownBlock := by
    by_cases h : (Value.slice a7 J.length k7).ownBlock = v6.ownBlock
    · left
      cases hq : (Value.slice a7 J.length k7).ownBlock with
      | none => rfl
      | some q => have h1 := (o7.lt q hq).1; have h2 := (H6.own.lt q (h ▸ hq)).2; omega
    · exact .inr h
  have hc7 : J.length ≤ k7 ∧ k7 ≤ maxLen ∨ J.length = 0 := by
    rcases Nat.eq_zero_or_pos J.length with h | h
    · exact .inr h
    · obtain ⟨g, k', hv, _, _, hk, hm⟩ := Own.form o7 h
      injection hv with _ _ h3
      exact .inl ⟨by omega, by omega⟩
  obtain ⟨e0, e1⟩ := hxB.out _ c7
  have hJ43 : J.length ≤ 140737488355328 := by omega
  clear c6 H6 b7
  go_upto_region 8 with (go_at_call 16; refine (cut_c RB.out H7 ⟨x0, x1⟩ hJ43).mono ?_; rintro e w8 ⟨rfl, v8, H8, F8, _⟩)
  have c8 := c7.trans (fr_low H7 (hz c7) F8)
  have o8 := F8.own o7 hn7 hv7
  clear c7 H7 F8 o7 hn7 hv7 e0 e1
  obtain ⟨nj, hnj⟩ : ∃ nj, nj = J.length := ⟨_, rfl⟩
  rw [← hnj] at o8 hc7 hJl hJb ⊢
  have HNJ := Lib.hid hnj
  clear hnj hJ43
  obtain ⟨m, hm⟩ : ∃ m, m = cutL (bel kk) ⟨x0, x1⟩ J := ⟨_, rfl⟩
  rw [← hm] at H8 ⊢
  obtain ⟨km, hkm⟩ : ∃ km, km = m.length := ⟨_, rfl⟩
  have hkj : km ≤ nj := by rw [hkm, hm, HNJ.out]; exact List.length_filter_le _ _
  have HM := Lib.hid hm
  have HKM := Lib.hid hkm
  rw [← hkm]
  clear hm hkm
  have hform : Hid (0 < nj → ∃ g, a7 = some ⟨g, 0, none⟩ ∧ nj ≤ k7 ∧ k7 ≤ maxLen ∧ g < w8.heap.size) := Lib.hid (fun h => by
    obtain ⟨g, k', hv, _, hg, hk, hm⟩ := Own.form o8 h
    injection hv with h1 _ h3
    subst h3
    exact ⟨g, h1, hk, hm, hg⟩)
  have HO8 := Lib.hid o8
  clear o8 hc7
  have H8 := Lib.hid H8
  go_wp2_with fail
  go_loopw [10, 11] (fun s10 s11 wr => ∃ (i k : Nat) (a10 : Option Addr) (k10 : Nat), s10 = .slice a10 k k10 ∧ s11 = .int .i64 i ∧ i ≤ nj ∧ k ≤ i ∧ Hid (Own w8.heap.size wr (.slice a10 k k10) k ((J.take i).filter (fun y => !bel kk ⟨x0, x1⟩ y))) ∧ Hid (Below w8.heap.size w8 wr)) (fun _ s11 _ => nj - (intOf s11).toNat)
  case atStart => exact ⟨0, 0, none, 0, rfl, rfl, by omega, by omega, Lib.hid ⟨by simp [flat], .inl ⟨rfl, rfl⟩⟩, Lib.hid (Below.refl _ _)⟩
  case round =>
    obtain ⟨i, k, a10, k10, rfl, rfl, hi, hk, HO, HB⟩ := hrel
    by_cases hlt : i < nj
    · obtain ⟨gq, rfl, hnk, hkm7, hgq⟩ := hform.out (by omega)
      unfold maxLen at hkm7
      have hil : i < J.length := by rw [← HNJ.out]; exact hlt
      obtain ⟨e2, e3⟩ := Own.at_ (own_below HO8.out HB.out) i hil
      have cr := c8.trans (HB.out.mono (hz c8))
      obtain ⟨e0, e1⟩ := hxB.out _ cr
      have l0 : vb < wr.heap.size := Nat.lt_of_lt_of_le hvB (hz cr)
      have l2 : gq < wr.heap.size := Nat.lt_of_lt_of_le hgq HB.out.size
      have htk : J.take (i + 1) = J.take i ++ [J[i]] := List.take_succ_eq_append_getElem hil
      obtain ⟨y, hy⟩ : ∃ y, y = J[i] := ⟨_, rfl⟩
      rw [← hy] at e2 e3 htk
      have HTK := Lib.hid htk
      clear hy htk
      obtain ⟨y0, y1⟩ := y
      simp only at e2 e3
      go_upto_region 12 with fail
      go_cut [45] (fun s wx => s = .bool (!bel kk ⟨x0, x1⟩ ⟨y0, y1⟩) ∧ Below wr.heap.size wr wx)
      case first =>
        refine wp_region_held_drew (S := fun w' => w'.cell? ⟨vb, 0, none⟩ = some (.int .i64 x0) ∧ w'.cell? ⟨vb, 1, none⟩ = some (.int .i64 x1) ∧ w'.cell? ⟨gq, i * 2, none⟩ = some (.int .i64 y0) ∧ w'.cell? ⟨gq, i * 2 + 1, none⟩ = some (.int .i64 y1)) (by kernel_rfl) ⟨e0, e1, e2, e3⟩ (fun hHeld => ?_)
        refine take_d (v := ?_) 0 38 rfl rfl (by kernel_rfl) (by kernel_rfl) (by kernel_rfl) (fun _ _ _ h => h) (by kernel_rfl) ?_ (by assumption) ?_
        rotate_left
        · (intro w hSw; (try dsimp only at hSw); go_simp; first | done | with_reducible rfl)
        try simp only [Act.put, List.setIfInBounds_toArray, List.set_cons_zero, List.set_cons_succ]
        refine take_d (v := ?_) 1 39 rfl rfl (by kernel_rfl) (by kernel_rfl) (by kernel_rfl) (fun _ _ _ h => h) (by kernel_rfl) ?_ (by assumption) ?_
        rotate_left
        · (intro w hSw; (try dsimp only at hSw); go_simp; first | done | with_reducible rfl)
        try simp only [Act.put, List.setIfInBounds_toArray, List.set_cons_zero, List.set_cons_succ]
        refine take_d (v := ?_) 2 40 rfl rfl (by kernel_rfl) (by kernel_rfl) (by kernel_rfl) (fun _ _ _ h => h) (by kernel_rfl) ?_ (by assumption) ?_
        rotate_left
        · (intro w hSw; (try dsimp only at hSw); go_simp; first | done | with_reducible rfl)
        try simp only [Act.put, List.setIfInBounds_toArray, List.set_cons_zero, List.set_cons_succ]
        refine take_d (v := ?_) 3 41 rfl rfl (by kernel_rfl) (by kernel_rfl) (by kernel_rfl) (fun _ _ _ h => h) (by kernel_rfl) ?_ (by assumption) ?_
        rotate_left
        · (intro w hSw; (try dsimp only at hSw); go_simp; first | done | with_reducible rfl)
        try simp only [Act.put, List.setIfInBounds_toArray, List.set_cons_zero, List.set_cons_succ]
        refine take_d (v := ?_) 4 42 rfl rfl (by kernel_rfl) (by kernel_rfl) (by kernel_rfl) (fun _ _ _ h => h) (by kernel_rfl) ?_ (by assumption) ?_
        rotate_left
        · (intro w hSw; (try dsimp only at hSw); go_simp; first | done | with_reducible rfl)
        try simp only [Act.put, List.setIfInBounds_toArray, List.set_cons_zero, List.set_cons_succ]
        refine take_d (v := ?_) 5 43 rfl rfl (by kernel_rfl) (by kernel_rfl) (by kernel_rfl) (fun _ _ _ h => h) (by kernel_rfl) ?_ (by assumption) ?_
        rotate_left
        · (intro w hSw; (try dsimp only at hSw); go_simp; first | done | with_reducible rfl)
        try simp only [Act.put, List.setIfInBounds_toArray, List.set_cons_zero, List.set_cons_succ]
        refine wpAnyH_ready (rs := [6]) (by kernel_rfl) (by simp) ?_
        refine AllReadyH.cons rfl (fun K hK => ?_) AllReadyH.nil
        go_simp
        (refine (bel_c kk ⟨x0, x1⟩ ⟨y0, y1⟩ wr.drew).mono ?_; rintro e w20 ⟨rfl, b20⟩; have b20 : Below wr.heap.size wr w20 := ⟨b20.os, b20.tape, b20.output, b20.size, b20.block⟩)
        go_wp2_with fail
        refine hK.out _ _ ⟨(b20.cell (p := ⟨vb, 0, none⟩) l0).trans e0, (b20.cell (p := ⟨vb, 1, none⟩) l0).trans e1, (b20.cell (p := ⟨gq, i * 2, none⟩) l2).trans e2, (b20.cell (p := ⟨gq, i * 2 + 1, none⟩) l2).trans e3⟩ (fun hHeld => ?_)
        clear hK K
        try simp only [Act.put, List.setIfInBounds_toArray, List.set_cons_zero, List.set_cons_succ]
        refine take_d (v := ?_) 7 45 rfl rfl (by kernel_rfl) (by kernel_rfl) (by kernel_rfl) (fun _ _ _ h => h) (by kernel_rfl) ?_ (by assumption) ?_
        rotate_left
        · (intro w hSw; (try dsimp only at hSw); go_simp; first | done | with_reducible rfl)
        try simp only [Act.put, List.setIfInBounds_toArray, List.set_cons_zero, List.set_cons_succ]
        refine wpAnyH_done (by kernel_rfl) ?_ _
        go_wp2_with fail
        go_meet
        exact ⟨rfl, b20⟩
      case rest =>
      obtain ⟨rfl, b20⟩ := hcut
      have e2 := (b20.cell (p := ⟨gq, i * 2, none⟩) l2).trans e2
      have e3 := (b20.cell (p := ⟨gq, i * 2 + 1, none⟩) l2).trans e3
      have HB2 := Lib.hid (HB.out.trans (b20.mono HB.out.size))
      have HO2 := Lib.hid (own_below HO.out b20)
      have hsz := HB2.out.size
      clear HB HO b20 e0 e1
      cases hbl : bel kk ⟨x0, x1⟩ ⟨y0, y1⟩ with
      | true =>
        have HBL := Lib.hid hbl
        clear hbl
        go_wp2_with fail
        go_roundw
        case rel => exact ⟨i + 1, k, a10, k10, rfl, by go_num, by omega, by omega, Lib.hid (by rw [HTK.out, List.filter_append]; simp only [List.filter_cons, HBL.out, Bool.not_true, Bool.false_eq_true, if_false, List.filter_nil, List.append_nil]; exact HO2.out), HB2⟩
        case measure => simp [intOf]; omega
      | false =>
        have HBL := Lib.hid hbl
        have lit : Reads (wc.alloc (.cells #[.int .i64 y0, .int .i64 y1] 35)) (wc.heap.size + 1) 2 (some ⟨wc.heap.size, 0, none⟩) 1 (flat [⟨y0, y1⟩]) := by
          have hh := World.ownsRow_lit (base := 0) (e := 35) (size := 2) wc #[.int .i64 y0, .int .i64 y1] 1 (by omega) (by decide) (by rfl)
          have := Reads.of_own (xs := flat [⟨y0, y1⟩]) (by simpa [flat, ct] using hh)
          simpa using this
        have fy := flat_one [⟨y0, y1⟩]
        clear hbl
        go_wp2_with (at_builtin; refine wpList_append_any _ rfl (.tmp 46) (.tmp 51) _ rfl w8.heap.size 35 i0 _ 2 16 Try.underlying29 hi0 hz0 hz1 hz2 rfl (by omega) (.slice a10 k k10) k (flat ((J.take i).filter (fun y => !bel kk ⟨x0, x1⟩ y))) rfl (own_below HO2.out ((Below.refl _ _).alloc (Nat.le_refl _) _)) (wc.heap.size + 1) (some ⟨wc.heap.size, 0, none⟩) 1 1 (flat [⟨y0, y1⟩]) rfl lit fy (by unfold maxLen; omega) (by omega) (by simp; omega) ?_; intro v21 w21 hown21 hgrow21 hat21; obtain ⟨a21, k21, rfl⟩ := own_shape hown21)
        go_roundw
        case rel => exact ⟨i + 1, k + 1, a21, k21, rfl, by go_num, by omega, by omega, Lib.hid (by rw [HTK.out, List.filter_append]; simp only [List.filter_cons, HBL.out, Bool.not_false, if_true, List.filter_nil]; unfold Own; rw [flat_append]; exact hown21), Lib.hid ((HB2.out.alloc hsz _).grown hgrow21 (by simp; omega) (fun q hq => (HO2.out.lt q hq).1))⟩
        case measure => simp [intOf]; omega
    · have hin : i = nj := by omega
      subst hin
      have hO := HO.out
      rw [HNJ.out, List.take_length] at hO
      have hfm : J.filter (fun y => !bel kk ⟨x0, x1⟩ y) = m := HM.out.symm
      rw [hfm] at hO
      have hkk2 : k = km := by rw [HKM.out]; exact Own.len hO
      subst hkk2
      have cr := c8.trans (HB.out.mono (hz c8))
      have H9 := H8.out.below HB.out
      obtain ⟨e0, e1⟩ := hxB.out _ cr
      have hmm : cutL (bel kk) ⟨x0, x1⟩ m = m := by rw [HM.out]; exact cutL_twice _ _ _
      have hmb : k * 16 ≤ 140737488355328 := by omega
      have hkc := own_cap hO
      have HHO := Lib.hid hO
      clear hO HO hfm HM
      go_wp2_with (first
        | (go_at_call 18; refine (list_n H9 HKM hmb).mono ?_; rintro e w22 ⟨a22, k22, rfl, o22, hk22, b22⟩; have c22 := stb cr b22; have H22 := H9.below b22; have hO22 := own_below HHO.out b22; have e0 := (hxB.out _ c22).1; have e1 := (hxB.out _ c22).2)
        | (go_at_call 23; refine (same_c (l := m) HKM.out (by omega) (Reads.of_own o22) (Reads.of_own hO22) hk22 hkc).mono ?_; rintro e w23 ⟨rfl, b23⟩; have c23 := stb c22 b23; have H23 := H22.below b23; have e0 := (hxB.out _ c23).1; have e1 := (hxB.out _ c23).2)
        | (go_at_call 16; refine (cut_same RB.out H23 ⟨x0, x1⟩ (by have := HKM.out; omega) hmm).mono ?_; rintro e w24 ⟨rfl, v24, H24, F24⟩; have c24 := c23.trans (fr_low H23 (hz c23) F24))
        | (go_at_call 22; refine (clear_c H24).mono ?_; rintro e w25 ⟨rfl, H25, F25⟩; have c25 := c24.trans (F25.below (hz c24) H24.base (fun k hk => by cases hk)); have e0 := (hxB.out _ c25).1; have e1 := (hxB.out _ c25).2)
        | (go_at_call 19; refine (len_c H25).mono ?_; rintro e w26 ⟨rfl, b26⟩; have c26 := stb c25 b26; have H26 := H25.below b26; have e0 := (hxB.out _ c26).1; have e1 := (hxB.out _ c26).2)
        | (go_at_call 18; refine (list_n (n := 0) H26 (Lib.hid rfl) (by omega)).mono ?_; rintro e w27 ⟨a27, k27, rfl, o27, hk27, b27⟩; have c27 := stb c26 b27; have H27 := H26.below b27; have e0 := (hxB.out _ c27).1; have e1 := (hxB.out _ c27).2)
        | (go_at_call 14; refine (covers_c RB.out H27 ⟨x0, x1⟩).mono ?_; rintro e w28 ⟨rfl, b28⟩; have c28 := stb c27 b28))
      go_ret
      exact ⟨by simp, Hend.out _ c28⟩
end CP
end Go.Proofs.Ythchppnfffllnaa
