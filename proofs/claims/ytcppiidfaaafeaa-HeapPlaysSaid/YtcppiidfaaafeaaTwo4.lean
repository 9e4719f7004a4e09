/- HeapTwo: the walk. -/
import Derived.Test.YtcppiidfaaafeaaTwo3
import Derived.Test.YtcppiidfaaafeaaTaken
import Derived.Test.YtcppiidfaaafeaaHSPop
set_option linter.unusedVariables false
set_option linter.unusedSimpArgs false
namespace Go.Proofs.Ytcppiidfaaafeaa
open Go.RowKit Pl
/-- Two rows that do not lie in one block. -/
def NeRow (v v' : Value) : Prop := ∀ k, v.ownBlock = some k → v'.ownBlock ≠ some k
theorem NeRow.symm {v v' : Value} (h : NeRow v v') : NeRow v' v := fun k hk hk' => h k hk' hk
theorem NeRow.or {v v' : Value} (h : NeRow v v') : v.ownBlock = none ∨ v.ownBlock ≠ v'.ownBlock := by
  cases hv : v.ownBlock with
  | none => exact .inl rfl
  | some k => exact .inr (fun e => h k hv e.symm)
theorem NeRow.nil (v : Value) : NeRow (.slice none 0 0) v := fun k hk => by simp [Value.ownBlock] at hk
/-- A row that stays in its block or moves to a new one. -/
theorem NeRow.moved {w : World} {v v' vn : Value} {base e size n : Nat} {xs : List Value} (h : NeRow v' v) (ho : w.ownsRow base e size v' n xs) (hn : vn.ownBlock = v.ownBlock ∨ ∃ b, vn.ownBlock = some b ∧ w.heap.size ≤ b) : NeRow v' vn := by
  intro k hk hk'
  rcases hn with hn | ⟨b, hb, hle⟩
  · exact h k hk (hn ▸ hk')
  · have := (ho.lt k hk).2
    rw [hb] at hk'; injection hk' with hk'; omega
theorem ne_of_types {w : World} {v v' : Value} {b b' e e' s s' n n' : Nat} {xs xs' : List Value} (h : w.ownsRow b e s v n xs) (h' : w.ownsRow b' e' s' v' n' xs') (hne : e ≠ e') : NeRow v v' := by
  intro k hk hk'
  rcases h.2 with ⟨h1, _⟩ | ⟨g, _, _, h1, _, hh, _⟩
  · rw [h1] at hk; simp [Value.ownBlock] at hk
  · rcases h'.2 with ⟨h2, _⟩ | ⟨g', _, _, h2, _, hh', _⟩
    · rw [h2] at hk'; simp [Value.ownBlock] at hk'
    · rw [h1] at hk; rw [h2] at hk'; simp [Value.ownBlock] at hk hk'
      subst hk; subst hk'
      exact blk_ne hh hh' hne rfl
theorem ne_blk {w : World} {v : Value} {b e s n g t : Nat} {xs : List Value} {cs : Array Value} (h : w.ownsRow b e s v n xs) (hg : w.heap[g]? = some (.cells cs t (0, 0))) (hne : e ≠ t) : v.ownBlock ≠ some g := by
  intro hk
  rcases h.2 with ⟨h1, _⟩ | ⟨g', _, _, h1, _, hh, _⟩
  · rw [h1] at hk; simp [Value.ownBlock] at hk
  · rw [h1] at hk; simp [Value.ownBlock] at hk
    subst hk
    exact blk_ne hh hg hne rfl
namespace HS
theorem Heap.row_ge {B : Nat} {w : World} {hb f : Nat} {v : Value} {l : List (Th ByteArray)} {nx : Int} (h : Heap B w hb f v l nx) : ∀ k, v.ownBlock = some k → B ≤ k := fun k hk => (h.own.lt k hk).1
theorem Heap.fr_below {B : Nat} {w w' : World} {hb f : Nat} {v : Value} {l : List (Th ByteArray)} {nx : Int} (h : Heap B w hb f v l nx) (F : Fr w w' hb v.ownBlock) (hB : B ≤ w.heap.size) : Below B w w' :=
  F.below hB h.base h.row_ge
/-- The other heap, behind a call on this one. -/
theorem Heap.other {B : Nat} {w w' : World} {hb f gb f' : Nat} {v v' : Value} {l l' : List (Th ByteArray)} {nx nx' : Int} (G : Heap B w gb f' v' l' nx') (H : Heap B w hb f v l nx) (F : Fr w w' hb v.ownBlock) (hne : gb ≠ hb) (hap : NeRow v' v) : Heap B w' gb f' v' l' nx' :=
  ⟨G.base, F.blk G.blk hne (Ne.symm (ne_blk H.own G.blk (by decide))), F.own G.own (ne_blk G.own H.blk (by decide)) hap.or⟩
/-- A row of texts, behind a call on a heap. -/
theorem Heap.row_kept {B b n : Nat} {w w' : World} {hb f : Nat} {v u : Value} {l : List (Th ByteArray)} {nx : Int} {xs : List Value} (H : Heap B w hb f v l nx) (F : Fr w w' hb v.ownBlock) (ho : w.ownsRow b 9 1 u n xs) : w'.ownsRow b 9 1 u n xs :=
  F.own ho (ne_blk ho H.blk (by decide)) (ne_of_types ho H.own (by decide)).or
/-- A heap, behind an append onto a row of texts. -/
theorem Heap.grown {B b n : Nat} {w w' : World} {hb f : Nat} {v u : Value} {l : List (Th ByteArray)} {nx : Int} {xs : List Value} (H : Heap B w hb f v l nx) (ho : w.ownsRow b 9 1 u n xs) (hg : w.grownBy w' u.ownBlock) : Heap B w' hb f v l nx :=
  ⟨H.base, (hg.block hb (blk_lt H.blk) (Ne.symm (ne_blk ho H.blk (by decide)))).trans H.blk, H.own.kept hg (ne_of_types H.own ho (by decide)).or⟩
end HS
namespace Two
theorem str_info : (Try.prog.info? 9).map (fun i => (i.zero, i.size, i.bytes)) = some (some (.string ByteArray.empty), 1, 16) := by kernel_rfl
abbrev strs (os : List ByteArray) : List Value := os.map Value.string
theorem strs_of_own {w : World} {b n c : Nat} {A : Option Addr} {os : List ByteArray} (h : w.ownsRow b 9 1 (.slice A n c) n (strs os)) : Strs w A os := fun h0 => by
  rcases h.2 with ⟨h1, h2⟩ | ⟨g, cap, cur, h1, hb, hh, hc, hcm, hcs, ht⟩
  · have := h.1; simp at this; omega
  · injection h1 with h1 h2 h3
    subst h1; subst h3
    refine ⟨g, 0, rfl, blk_lt hh, fun j p hp => ?_⟩
    have hj : j < n := by have := h.1; have := (List.getElem?_eq_some_iff.1 hp).1; simp at *; omega
    rw [Nat.zero_add, h.cellAt j (by omega)]
    simp [strs, hp]

/-- What is known in the first loop behind i pushes. -/
structure In (B : Nat) (w wr : World) (hb gb : Nat) (ss : List ByteArray) (i : Nat) : Prop where
  keep : Below B w wr
  st : ∃ vh vg lh lg, HS.Heap B wr hb 12 vh lh i ∧ HS.Heap B wr gb 13 vg lg i ∧ NeRow vg vh ∧ Holds sizeKey lh (pairs ss i) i ∧ lg.Perm (pairs ss i)

/-- What is known in the second loop behind j pops. -/
structure In2 (B : Nat) (w wr : World) (hb gb : Nat) (ss : List ByteArray) (n j : Nat) (vo vd : Value) : Prop where
  keep : Below B w wr
  st : ∃ vh vg lh lg R V os ds, HS.Heap B wr hb 12 vh lh n ∧ HS.Heap B wr gb 13 vg lg n ∧ NeRow vg vh ∧ j + lh.length = n ∧ j + lg.length = n ∧
    wr.ownsRow B 9 1 vo j (strs os) ∧ wr.ownsRow B 9 1 vd j (strs ds) ∧ NeRow vd vo ∧
    Holds sizeKey lh R n ∧ GoodTo ss (List.replicate ss.length false) os V ∧ Rel ss V R ∧ (ds ++ lg.map (·.v)).Perm ss
/-- An append onto one of the two rows. -/
theorem appended {B : Nat} {w w1 : World} {vo vd : Value} {n m g cap : Nat} {o : Obj} {ys : List Value} (hBl : B ≤ w.heap.size) (hd : w.ownsRow B 9 1 vd m ys) (hne : NeRow vd vo)
    (hgrow : (w.alloc o).grownBy w1 vo.ownBlock) (hat : vo.ownBlock = some g ∨ g = w.heap.size + 1) :
    w1.ownsRow B 9 1 vd m ys ∧ NeRow vd (.slice (some ⟨g, 0, none⟩) n cap) := by
  refine ⟨(hd.alloc o).kept hgrow hne.or, hne.moved (hd.alloc o) ?_⟩
  rcases hat with h | h
  · exact .inl (by rw [h]; rfl)
  · exact .inr ⟨g, rfl, by simp; omega⟩

set_option maxRecDepth 100000 in
set_option maxHeartbeats 2000000 in
theorem two_some (ss : List ByteArray) (sb so_ c : Nat) (w : World) (hsl : sb < w.heap.size) (hsc : ∀ (j : Nat) p, ss[j]? = some p → w.cell? ⟨sb, so_ + j, none⟩ = some (.string p)) (hn : ss.length ≤ 1048576) :
    Calls Try.prog 4 #[.slice (some ⟨sb, so_, none⟩) ss.length c] w fun e w' => e = .returned (.bool true) ∧ Below w.heap.size w w' := by
  obtain ⟨B, hB⟩ : ∃ B, B = w.heap.size := ⟨_, rfl⟩
  rw [← hB]
  have hBl : B ≤ w.heap.size := by omega
  have hsB : sb < B := by omega
  have HBE := Lib.hid hB
  clear hB
  have HSC := Lib.hid hsc
  clear hsc
  obtain ⟨n, hnn⟩ : ∃ n, n = ss.length := ⟨_, rfl⟩
  rw [← hnn] at hn ⊢
  have HN := Lib.hid hnn
  clear hnn
  go_enter Try.func4, Try.ntmps4
  go_wp2_with fail
  refine (taken_c _).mono ?_
  rintro e w1 ⟨rfl, b1⟩
  have c1 : Below B w w1 := b1.mono hBl
  clear b1
  go_wp2_with fail
  refine (HS.new_c (B := B) 12 _ (Nat.le_trans hBl c1.size)).mono ?_
  rintro e w2 ⟨rfl, H2, b2⟩
  have c2 := c1.trans (b2.mono (Nat.le_trans hBl c1.size))
  have hlt := blk_lt H2.blk
  obtain ⟨hb, hhb⟩ : ∃ hb, hb = w1.heap.size := ⟨_, rfl⟩
  rw [← hhb] at H2 hlt ⊢
  clear b2 c1 hhb
  go_wp2_with fail
  refine (HS.new_c (B := B) 13 _ (Nat.le_trans hBl c2.size)).mono ?_
  rintro e w3 ⟨rfl, G3, b3⟩
  have c3 := c2.trans (b3.mono (Nat.le_trans hBl c2.size))
  have H3 := H2.below b3
  obtain ⟨gb, hgb⟩ : ∃ gb, gb = w2.heap.size := ⟨_, rfl⟩
  rw [← hgb] at G3 ⊢
  have hgh : gb ≠ hb := by omega
  have hgh2 : hb ≠ gb := by omega
  have HGH := Lib.hid hgh
  have HGH2 := Lib.hid hgh2
  clear b3 c2 H2 hgb hlt hgh hgh2
  go_wp2_with fail
  go_loopw [5] (fun s5 wr => ∃ i : Nat, s5 = .int .i64 i ∧ i ≤ n ∧ In B w wr hb gb ss i) (fun s5 _ => n - (intOf s5).toNat)
  case atStart => exact ⟨0, rfl, by omega, c3, _, _, _, _, H3, G3, NeRow.nil _, holds_nil _ _, List.Perm.refl _⟩
  case round =>
    clear c3 H3 G3
    obtain ⟨i, rfl, hi, cR, vh, vg, lh, lg, H, G, hap, hH, hG⟩ := hrel
    by_cases hlt : i < n
    · have his : i < ss.length := by have := HN.out; omega
      have hgd : ss.getD i ByteArray.empty = ss[i] := by simp [List.getD, his]
      have hx := (cR.cell (p := ⟨sb, so_ + i, none⟩) hsB).trans (HSC.out i _ (List.getElem?_eq_getElem his))
      rw [← hgd] at hx
      have hll : lh.length = i := by rw [hH.perm.length_eq]; simp [pairs]
      have hlg : lg.length = i := by rw [hG.length_eq]; simp [pairs]
      have HLL := Lib.hid hll
      have HLG := Lib.hid hlg
      clear hgd hll hlg
      generalize hxx : ss.getD i ByteArray.empty = x at *
      have HXX := Lib.hid hxx
      clear hxx
      go_wp2_with fail
      refine (HS.push_c shorter_first H x (Nat.le_trans hBl cR.size) (by omega) (by omega) (by have := HLL.out; omega)).mono ?_
      rintro e w4 ⟨rfl, vh', H4, F4, hmv⟩
      have G4 := G.other H F4 HGH.out hap
      have hap4 := hap.moved G.own hmv
      have c4 := cR.trans (H.fr_below F4 (Nat.le_trans hBl cR.size))
      have hx4 := (c4.cell (p := ⟨sb, so_ + i, none⟩) hsB).trans ((cR.cell (p := ⟨sb, so_ + i, none⟩) hsB).symm.trans hx)
      clear H F4 G hap cR hx hmv
      go_wp2_with fail
      refine (HS.push_c always_first G4 x (Nat.le_trans hBl c4.size) (by omega) (by omega) (by have := HLG.out; omega)).mono ?_
      rintro e w5 ⟨rfl, vg', G5, F5, hmv⟩
      have H5 := H4.other G4 F5 HGH2.out hap4.symm
      have hap5 := (hap4.symm.moved H4.own hmv).symm
      have c5 := c4.trans (G4.fr_below F5 (Nat.le_trans hBl c4.size))
      have hH5 := hH.push sizeKey x
      have hG5 := (push_perm (fun _ _ => true) lg x i).trans (hG.append_right [⟨x, (i : Int)⟩])
      have e5 := pairs_succ ss i
      rw [HXX.out] at e5
      rw [← e5] at hH5 hG5
      have HH5 := Lib.hid hH5
      clear G4 F5 H4 hap4 c4 hx4 hmv hH hG e5 hH5
      go_wp2
      go_roundw
      case rel => exact ⟨i + 1, by go_num, by omega, c5, _, _, _, _, H5, G5, hap5, HH5.out, hG5⟩
      case measure => simp [intOf]; omega
    · have hin : i = n := by omega
      subst hin
      go_wp2_with fail
      obtain ⟨i0, hi0, hz0, hz1, hz2⟩ := info_parts str_info
      have hpv : (pairs ss i).map (·.v) = ss := by rw [HN.out]; exact pairs_vals ss
      have hst : In2 B w wr hb gb ss i 0 (.slice none 0 0) (.slice none 0 0) := by
        refine ⟨cR, vh, vg, lh, lg, pairs ss i, List.replicate ss.length false, [], [], H, G, hap, by rw [hH.perm.length_eq]; simp [pairs], by rw [hG.length_eq]; simp [pairs], World.ownsRow_nil _ _ _ _, World.ownsRow_nil _ _ _ _, NeRow.nil _, hH, rfl, by rw [HN.out]; exact rel_start ss, ?_⟩
        have := hG.map (·.v)
        rw [hpv] at this
        exact this
      clear cR H G hap hH hG hpv hi
      go_loopw [6, 7, 8, 9, 10, 11, 12] (fun s6 s7 s8 s9 s10 s11 s12 wr => ∃ j : Nat, s8 = .int .i64 j ∧ j ≤ i ∧ In2 B w wr hb gb ss i j s6 s7) (fun _ _ s8 _ _ _ _ _ => i - (intOf s8).toNat)
      case atStart => exact ⟨0, rfl, by omega, hst⟩
      case round =>
        clear hst
        obtain ⟨j, rfl, hj, cR, vh, vg, lh, lg, R, V, os, ds, H, G, hap, hlh, hlg, hO, hD, hne, hH, hgo, hrl, hpm⟩ := hrel
        have HLH := Lib.hid hlh
        have HLG := Lib.hid hlg
        clear hlh hlg
        by_cases hlt2 : j < i
        · have h0 : 0 < lh.length := by have := HLH.out; omega
          have g0 : 0 < lg.length := by have := HLG.out; omega
          go_wp2_with fail
          refine (HS.pop_yes shorter_first H h0 (by have := HLH.out; omega)).mono ?_
          rintro e w4 ⟨rfl, vh', H4, F4, hmv⟩
          have hBr := Nat.le_trans hBl cR.size
          have G4 := G.other H F4 HGH.out hap
          have hap4 := hap.moved G.own (.inl hmv)
          have O4 := H.row_kept F4 hO
          have D4 := H.row_kept F4 hD
          have c4 := cR.trans (H.fr_below F4 hBr)
          clear H F4 G hap cR hmv hO hD hBr
          go_wp2_with fail
          refine (HS.pop_yes always_first G4 g0 (by have := HLG.out; omega)).mono ?_
          rintro e w5 ⟨rfl, vg', G5, F5, hmv⟩
          have hBr := Nat.le_trans hBl c4.size
          have H5 := H4.other G4 F5 HGH2.out hap4.symm
          have hap5 := (hap4.symm.moved H4.own (.inl hmv)).symm
          have O5 := G4.row_kept F5 O4
          have D5 := G4.row_kept F5 D4
          have c5 := c4.trans (G4.fr_below F5 hBr)
          have hB5 := Nat.le_trans hBl c5.size
          clear H4 F5 G4 hap4 c4 hmv O4 D4 hBr
          have hrlh := rest_length (byKey sizeKey) lh h0
          have hrlg := rest_length (fun _ _ => true) lg g0
          have e1 : (((rest (fun _ _ => true) lg).length : Nat) : Int) = (i : Int) - 1 - j := by have := HLG.out; omega
          have e2 : (((rest (byKey sizeKey) lh).length : Nat) : Int) = (i : Int) - 1 - j := by have := HLH.out; omega
          have E1 := Lib.hid e1
          have E2 := Lib.hid e2
          have HRLH := Lib.hid hrlh
          have HRLG := Lib.hid hrlg
          clear hrlh hrlg e1 e2
          -- the plain side
          obtain ⟨k, hk, hk1, hk2, hk3⟩ := hH.pop sizeKey h0
          obtain ⟨κ, hκ1, hκ2, hκ3⟩ := hrl.step hH.inc k hk hk2
          rw [← hk1] at hκ2
          have HGO := Lib.hid (hgo.snoc hκ1 hκ2)
          have HRL := Lib.hid hκ3
          have HH5 := Lib.hid hk3
          have hpm2 : ((ds ++ [lg[0].v]) ++ (rest (fun _ _ => true) lg).map (·.v)).Perm ss := by
            refine List.Perm.trans ?_ hpm
            have := ((rest_perm (fun _ _ => true) lg g0).map (·.v)).symm
            simp only [List.map_cons] at this
            rw [List.append_assoc]
            exact List.Perm.append_left ds this
          have HPM := Lib.hid hpm2
          have hlo : os.length = j := by have := O5.1; simpa using this
          have hld : ds.length = j := by have := D5.1; simpa using this
          have HX1 : ∃ x, x = lh[0].v := ⟨_, rfl⟩
          obtain ⟨x, hx⟩ := HX1
          have HX2 : ∃ y, y = lg[0].v := ⟨_, rfl⟩
          obtain ⟨y, hy⟩ := HX2
          rw [← hx] at HGO ⊢
          rw [← hy] at HPM ⊢
          clear hk1 hk2 hκ1 hκ2 hκ3 hk3 hgo hrl hpm hpm2 hH hlo hld hx hy hk
          go_wp2_with fail
          refine (HS.len_c G5).mono ?_
          rintro e w6 ⟨rfl, rfl⟩
          rw [E1.out]
          go_wp2_with fail
          refine (HS.len_c H5).mono ?_
          rintro e w6 ⟨rfl, rfl⟩
          rw [E2.out]
          go_upto_region 22 with (at_builtin; refine wpList_append_lies _ rfl (.tmp 87) (.tmp 89) _ rfl B 9 i0 _ 1 16 Try.underlying41 hi0 hz0 hz1 hz2 rfl (by omega) _ _ _ rfl (O5.alloc _) ⟨w5.heap.size, 0, none⟩ 1 1 [.string x] rfl rfl (World.news_of_block (cs := #[.string x]) (t := 9) (fr := (0, 0)) (heap_alloc_new _ _)) (by simp [Value.oneCell']) (by omega) (by unfold maxLen; omega) (by omega) (by simp; omega) (w5.heap.size + 1) (by simp) ?_; intro g1 cap1 w6 hown1 hgrow1 hat1 hlt1)
          have a1 : Below w5.heap.size w5 (w5.alloc (.cells #[.string x] 9)) := (Below.refl _ _).alloc (Nat.le_refl _) _
          have H6 := (H5.below a1).grown (O5.alloc _) hgrow1
          have G6 := (G5.below a1).grown (O5.alloc _) hgrow1
          obtain ⟨D6, hne6⟩ := appended (n := j + 1) (cap := cap1) hB5 D5 hne hgrow1 hat1
          have c6 := (c5.alloc hB5 (.cells #[.string x] 9)).grown hgrow1 (by simp; omega) (fun k hk => (O5.lt k hk).1)
          have hB6 := Nat.le_trans hBl c6.size
          clear H5 G5 O5 D5 hne hgrow1 hat1 c5 a1 hB5 hlt1
          go_wp2_with (at_builtin; refine wpList_append_lies _ rfl (.tmp 91) (.tmp 93) _ rfl B 9 i0 _ 1 16 Try.underlying41 hi0 hz0 hz1 hz2 rfl (by omega) _ _ _ rfl (D6.alloc _) ⟨w6.heap.size, 0, none⟩ 1 1 [.string y] rfl rfl (World.news_of_block (cs := #[.string y]) (t := 9) (fr := (0, 0)) (heap_alloc_new _ _)) (by simp [Value.oneCell']) (by omega) (by unfold maxLen; omega) (by omega) (by simp; omega) (w6.heap.size + 1) (by simp) ?_; intro g2 cap2 w7 hown2 hgrow2 hat2 hlt2)
          have a2 : Below w6.heap.size w6 (w6.alloc (.cells #[.string y] 9)) := (Below.refl _ _).alloc (Nat.le_refl _) _
          have H7 := (H6.below a2).grown (D6.alloc _) hgrow2
          have G7 := (G6.below a2).grown (D6.alloc _) hgrow2
          obtain ⟨O7, hne7⟩ := appended (n := j + 1) (cap := cap2) hB6 hown1 hne6.symm hgrow2 hat2
          have c7 := (c6.alloc hB6 (.cells #[.string y] 9)).grown hgrow2 (by simp; omega) (fun k hk => (D6.lt k hk).1)
          go_roundw
          case rel => exact ⟨j + 1, by go_num, by omega, c7, _, _, _, _, _, _, _, _, H7, G7, hap5, by have := HRLH.out; have := HLH.out; omega, by have := HRLG.out; have := HLG.out; omega, by rw [strs, List.map_append]; exact O7, by rw [strs, List.map_append]; exact hown2, hne7.symm, HH5.out, HGO.out, HRL.out, HPM.out⟩
          case measure => simp [intOf]; omega
        · have hji : j = i := by omega
          subst hji
          have hl0 : lh = [] := List.eq_nil_of_length_eq_zero (by have := HLH.out; omega)
          have hg0 : lg = [] := List.eq_nil_of_length_eq_zero (by have := HLG.out; omega)
          subst hl0
          subst hg0
          have HPM := Lib.hid (show ds.Perm ss by simpa using hpm)
          have HGO := Lib.hid hgo.good
          obtain ⟨ao, co, hvo⟩ : ∃ a c, u6 = .slice a j c := by
            rcases hO.2 with ⟨h1, h2⟩ | ⟨g, cap, _, h1, _⟩
            · exact ⟨none, 0, by rw [h1, h2]⟩
            · exact ⟨_, cap, h1⟩
          obtain ⟨ad, cd, hvd⟩ : ∃ a c, u7 = .slice a j c := by
            rcases hD.2 with ⟨h1, h2⟩ | ⟨g, cap, _, h1, _⟩
            · exact ⟨none, 0, by rw [h1, h2]⟩
            · exact ⟨_, cap, h1⟩
          subst hvo
          subst hvd
          have so := strs_of_own hO
          have sd := strs_of_own hD
          have hlo : j = os.length := by have := hO.1; simpa using this.symm
          have hld : j = ds.length := by have := hD.1; simpa using this.symm
          have hSS : Strs wr (some ⟨sb, so_, none⟩) ss := fun _ => ⟨sb, so_, rfl, Nat.lt_of_lt_of_le hsl cR.size, fun q p hp => (cR.cell (p := ⟨sb, so_ + q, none⟩) hsB).trans (HSC.out q p hp)⟩
          have HLO := Lib.hid hlo
          have HLD := Lib.hid hld
          clear hO hD hne hH hgo hrl hpm hap hlo hld hi0 hz0 hz1 hz2
          go_wp2_with fail
          refine (HS.pop_no H).mono ?_
          rintro e w4 ⟨rfl, b4⟩
          have G4 := G.below b4
          have so4 := so.below b4
          have sd4 := sd.below b4
          have hS4 := hSS.below b4
          have c4 := cR.trans (b4.mono (Nat.le_trans hBl cR.size))
          clear H G b4 so sd hSS cR
          go_wp2_with fail
          refine (HS.pop_no G4).mono ?_
          rintro e w5 ⟨rfl, b5⟩
          have so5 := so4.below b5
          have sd5 := sd4.below b5
          have hS5 := hS4.below b5
          have c5 := c4.trans (b5.mono (Nat.le_trans hBl c4.size))
          clear G4 b5 so4 sd4 hS4 c4
          go_wp2_with fail
          have hso := sorted_c os ss ao (some ⟨sb, so_, none⟩) co c w5 so5 hS5 (by rw [← HLO.out, ← HN.out]) (by rw [← HN.out]; exact hn) HGO.out
          rw [← HLO.out, ← HN.out] at hso
          refine hso.mono ?_
          rintro e w6 ⟨rfl, b6⟩
          have hal := alike_c ds ss ad (some ⟨sb, so_, none⟩) cd c w6 (sd5.below b6) (hS5.below b6) HPM.out (by rw [← HN.out]; exact hn)
          rw [← HLD.out, ← HN.out] at hal
          have c6 := c5.trans (b6.mono (Nat.le_trans hBl c5.size))
          clear hso so5 sd5 hS5 b6 c5
          have HAL := Lib.hid hal
          clear hal
          go_wp2_with fail
          refine HAL.out.mono ?_
          rintro e w7 ⟨rfl, b7⟩
          go_wp2
          go_ret
          exact ⟨rfl, c6.trans (b7.mono (Nat.le_trans hBl c6.size))⟩
end Two
end Go.Proofs.Ytcppiidfaaafeaa
