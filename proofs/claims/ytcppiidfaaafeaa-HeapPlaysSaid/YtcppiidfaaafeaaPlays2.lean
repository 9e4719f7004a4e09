/- HeapPlays: the walk. -/
import Derived.Test.YtcppiidfaaafeaaPlays1
set_option linter.unusedVariables false
set_option linter.unusedSimpArgs false
namespace Go.Proofs.Ytcppiidfaaafeaa
open Go.RowKit Pl
structure Op3 where
  kd : Int
  on : Int
  key : Int
/-- The script, as it lies in memory. -/
def Script (w : World) (sb so : Nat) (os : List Op3) : Prop := ∀ (i : Nat) p, os[i]? = some p →
  w.cell? ⟨sb, so + i * 3, none⟩ = some (.int .i64 p.kd) ∧ w.cell? ⟨sb, so + i * 3 + 1, none⟩ = some (.int .i64 p.on) ∧ w.cell? ⟨sb, so + i * 3 + 2, none⟩ = some (.int .i64 p.key)
theorem pair_info : (Try.prog.info? 31).map (fun i => (i.zero, i.size, i.bytes)) = some (some (.agg #[.pointer none, .pointer none]), 2, 16) := by kernel_rfl
theorem and3 (a : Int) : 0 ≤ bits .and .i64 a 3 ∧ bits .and .i64 a 3 ≤ 3 := by
  have e : bits .and .i64 a 3 = IntKind.i64.wrap (((BitVec.ofInt 64 a).toNat &&& 3 : Nat) : Int) := by
    show IntKind.i64.wrap ((BitVec.ofInt 64 a &&& BitVec.ofInt 64 (3 : Int)).toNat : Int) = _
    rw [BitVec.toNat_and]; rfl
  have hle : (BitVec.ofInt 64 a).toNat &&& 3 ≤ 3 := Nat.and_le_right
  rw [e, IntKind.wrap_i64]
  omega
/-- The pairs, in the row s. -/
structure Pairs (B : Nat) (w : World) (o : Int) (ps : List Tw) (s : Value) (M : Nat) : Prop where
  st : State B w o ps M
  row : w.ownsRow B 31 2 s ps.length (flatP ps)
  pos : 0 < ps.length
  few : ps.length ≤ 5
theorem Pairs.below {B : Nat} {w w' : World} {o : Int} {ps : List Tw} {s : Value} {M : Nat} (h : Pairs B w o ps s M) (hb : Below w.heap.size w w') : Pairs B w' o ps s M := ⟨h.st.below hb, own_below h.row hb, h.pos, h.few⟩
theorem Pairs.form {B : Nat} {w : World} {o : Int} {ps : List Tw} {s : Value} {M : Nat} (h : Pairs B w o ps s M) : ∃ g c, s = .slice (some ⟨g, 0, none⟩) ps.length c ∧ B ≤ g ∧ g < w.heap.size ∧ ps.length ≤ c := by
  have := h.pos
  rcases h.row.2 with ⟨_, h1⟩ | ⟨g, cap, cur, hv, hB, hh, hc, _⟩
  · omega
  · exact ⟨g, cap, hv, hB, blk_lt hh, hc⟩
theorem Pairs.at_ {B : Nat} {w : World} {o : Int} {ps : List Tw} {g c : Nat} {M : Nat} (h : Pairs B w o ps (.slice (some ⟨g, 0, none⟩) ps.length c) M) (i : Nat) (hi : i < ps.length) :
    w.cell? ⟨g, i * 2, none⟩ = some (.pointer (some ⟨ps[i].hb, 0, none⟩)) ∧ w.cell? ⟨g, i * 2 + 1, none⟩ = some (.pointer (some ⟨ps[i].rb, 0, none⟩)) := by
  have ho := h.row
  exact ⟨by rw [ho.cellAt _ (by omega)]; exact flatP_get ps i 0 hi (by omega), by rw [ho.cellAt _ (by omega)]; exact flatP_get ps i 1 hi (by omega)⟩
theorem Pairs.step {B : Nat} {w w' : World} {o : Int} {ps : List Tw} {s : Value} {M M' : Nat} (h : Pairs B w o ps s M) (i : Nat) (p : Tw) (hp : ps[i]? = some p) {v' u' : Value}
    (T : Twin B w' p.hb p.rb o v' u' M') (hM : M ≤ M') (F : Frs w w' (Own p.hb p.rb p.v p.u)) (hv : Moved w p.v v') (hu : Moved w p.u u') : Pairs B w' o (ps.set i ⟨p.hb, p.rb, v', u'⟩) s M' :=
  ⟨h.st.step i p hp T hM F hv hu, by rw [List.length_set, flatP_set ps i p ⟨p.hb, p.rb, v', u'⟩ hp rfl rfl]; exact (h.st.tw i p hp).row F h.row, by rw [List.length_set]; exact h.pos, by rw [List.length_set]; exact h.few⟩
theorem Pairs.frs_below {B : Nat} {w w' : World} {o : Int} {ps : List Tw} {s : Value} {M : Nat} (h : Pairs B w o ps s M) (i : Nat) (p : Tw) (hp : ps[i]? = some p) (F : Frs w w' (Own p.hb p.rb p.v p.u)) (hB : B ≤ w.heap.size) : Below B w w' :=
  F.below hB (h.st.tw i p hp).base_ge

theorem HT.Heap.weaken {B B' : Nat} {w : World} {hb f : Nat} {v : Value} {l : List (Th HT.K)} {nx : Int} (h : HT.Heap B w hb f v l nx) (hB : B' ≤ B) : HT.Heap B' w hb f v l nx := ⟨Nat.le_trans hB h.base, h.blk, HT.own_weaken h.own hB⟩
theorem Ref.Heap.weaken {B B' : Nat} {w : World} {rb : Nat} {o : Int} {v : Value} {L : List Ref.K} (h : Ref.Heap B w rb o v L) (hB : B' ≤ B) : Ref.Heap B' w rb o v L := ⟨Nat.le_trans hB h.base, h.blk, HT.own_weaken h.own hB⟩
theorem Twin.weaken {B B' : Nat} {w : World} {hb rb : Nat} {o : Int} {v u : Value} {M : Nat} (T : Twin B w hb rb o v u M) (hB : B' ≤ B) : Twin B' w hb rb o v u M := by
  obtain ⟨l, R, nx, T⟩ := T
  exact ⟨l, R, nx, T.hp.weaken hB, T.rf.weaken hB, T.hs, T.n0, T.n1, T.ln⟩
theorem Twin.set31 {B : Nat} {w : World} {hb rb : Nat} {o : Int} {v u : Value} {M : Nat} (T : Twin B w hb rb o v u M) {xb : Nat} {cs : Array Value} (hx : w.heap[xb]? = some (.cells cs 31 (0, 0))) (i : Nat) (y : Value) : Twin B (w.setCell ⟨xb, i, none⟩ y) hb rb o v u M := by
  obtain ⟨l, R, nx, T⟩ := T
  have F := (Fr.refl w xb none).setCell (p := ⟨xb, i, none⟩) (.inl rfl) y
  refine ⟨l, R, nx, ⟨T.hp.base, F.blk T.hp.blk (blk_ne T.hp.blk hx (by decide)) (by simp), F.own T.hp.own (ne_blk T.hp.own hx (by decide)) ?_⟩, ⟨T.rf.base, F.blk T.rf.blk (blk_ne T.rf.blk hx (by decide)) (by simp), F.own T.rf.own (ne_blk T.rf.own hx (by decide)) ?_⟩, T.hs, T.n0, T.n1, T.ln⟩
  · cases v.ownBlock <;> simp
  · cases u.ownBlock <;> simp
theorem Pairs.mono {B : Nat} {w : World} {o : Int} {ps : List Tw} {s : Value} {M M' : Nat} (h : Pairs B w o ps s M) (hM : M ≤ M') : Pairs B w o ps s M' := ⟨h.st.mono hM, h.row, h.pos, h.few⟩
theorem Twin.row31 {B b n : Nat} {w w' : World} {hb rb : Nat} {o : Int} {v u s : Value} {M : Nat} {xs : List Value} (T : Twin B w hb rb o v u M) (hs : w.ownsRow b 31 2 s n xs) (F : Frs w w' (fun k => s.ownBlock = some k)) : Twin B w' hb rb o v u M := by
  obtain ⟨l, R, nx, T⟩ := T
  exact ⟨l, R, nx, ⟨T.hp.base, (F.block hb (blk_lt T.hp.blk) (ne_blk hs T.hp.blk (by decide))).trans T.hp.blk, own_frs T.hp.own F (fun k hk hk' => ne_of_types T.hp.own hs (by decide) k hk hk')⟩,
    ⟨T.rf.base, (F.block rb (blk_lt T.rf.blk) (ne_blk hs T.rf.blk (by decide))).trans T.rf.blk, own_frs T.rf.own F (fun k hk hk' => ne_of_types T.rf.own hs (by decide) k hk hk')⟩, T.hs, T.n0, T.n1, T.ln⟩
theorem State.row31 {B b n : Nat} {w w' : World} {o : Int} {ps : List Tw} {s : Value} {M : Nat} {xs : List Value} (h : State B w o ps M) (hs : w.ownsRow b 31 2 s n xs) (F : Frs w w' (fun k => s.ownBlock = some k)) : State B w' o ps M :=
  ⟨fun i p hp => (h.tw i p hp).row31 hs F, h.ap⟩
abbrev Z31 : Obj := .cells #[.pointer none, .pointer none] 31 (0, 0)
theorem z_facts {w : World} {g : Nat} (h : w.heap[g]? = some Z31) : w.cell? ⟨g, 0, none⟩ = some (.pointer none) ∧ w.cell? ⟨g, 1, none⟩ = some (.pointer none) ∧ w.frozen? ⟨g, 0, none⟩ = false ∧ w.frozen? ⟨g, 1, none⟩ = false ∧ g < w.heap.size :=
  ⟨by have := blk_cell h 0; simpa using this, by have := blk_cell h 1; simpa using this, blk_frozen h 0, blk_frozen h 1, blk_lt h⟩
theorem lt_alloc (w : World) (o : Obj) : w.heap.size < (w.alloc o).heap.size := by simp
theorem lt_alloc_drew (w : World) (o : Obj) : w.heap.size < (w.drew.alloc o).heap.size := by simp
theorem le_alloc_drew (w : World) (o : Obj) : w.heap.size ≤ (w.drew.alloc o).heap.size := by simp
theorem le_alloc (w : World) (o : Obj) : w.heap.size ≤ (w.alloc o).heap.size := by simp
set_option maxRecDepth 100000 in
set_option maxHeartbeats 4000000 in
theorem plays_some (kind : Int) (os : List Op3) (sb so_ c : Nat) (w : World) (hsl : sb < w.heap.size) (hsc : Script w sb so_ os) (hn : os.length * 24 ≤ 140737488351232) :
    Calls Try.prog 3 #[.int .i64 kind, .slice (some ⟨sb, so_, none⟩) os.length c] w fun e w' => e = .returned (.bool true) ∧ Below w.heap.size w w' := by
  obtain ⟨B, hB⟩ : ∃ B, B = w.heap.size := ⟨_, rfl⟩
  rw [← hB]
  have hBl : B ≤ w.heap.size := by omega
  have hsB : sb < B := by omega
  clear hB
  have HSC := Lib.hid hsc
  clear hsc
  obtain ⟨n, hnn⟩ : ∃ n, n = os.length := ⟨_, rfl⟩
  rw [← hnn] at hn ⊢
  have HN := Lib.hid hnn
  clear hnn
  obtain ⟨i0, hi0, hz0, hzs, hz2⟩ := info_parts pair_info
  go_enter Try.func3, Try.ntmps3
  go_wp2_with fail
  refine (taken_c _).mono ?_
  rintro e w1 ⟨rfl, b1⟩
  have c1 : Below B w w1 := b1.mono hBl
  clear b1
  go_wp2_with fail
  obtain ⟨o, ho⟩ : ∃ o, o = bits .and .i64 kind 3 := ⟨_, rfl⟩
  rw [← ho]
  refine (made_c (B := B) o w1 (Nat.le_trans hBl c1.size)).mono ?_
  rintro e w2 ⟨rfl, H2, b2⟩
  have hB2 := Nat.le_trans hBl (Nat.le_trans c1.size b2.size)
  have c2 := c1.trans (b2.mono (Nat.le_trans hBl c1.size))
  obtain ⟨hb, hhb⟩ : ∃ hb, hb = w1.heap.size := ⟨_, rfl⟩
  rw [← hhb] at H2 ⊢
  clear hhb
  have HO := Lib.hid ho
  clear ho b2 c1
  obtain ⟨rb, hrb⟩ : ∃ rb, rb = w2.heap.size := ⟨_, rfl⟩
  go_wp2_with fail
  rw [← HO.out]
  -- the first pair
  have a3 : Below w2.heap.size w2 ((w2.alloc (.cells #[.int .i64 o, .slice none 0 0] 29)).alloc (.cells #[.pointer (some ⟨hb, 0, none⟩), .pointer (some ⟨w2.heap.size, 0, none⟩)] 31)) := ((Below.refl _ _).alloc (Nat.le_refl _) _).alloc (by simp) _
  have c3 := c2.trans (a3.mono hB2)
  have hP : Pairs B ((w2.alloc (.cells #[.int .i64 o, .slice none 0 0] 29)).alloc (.cells #[.pointer (some ⟨hb, 0, none⟩), .pointer (some ⟨w2.heap.size, 0, none⟩)] 31)) o [⟨hb, w2.heap.size, .slice none 0 0, .slice none 0 0⟩] (.slice (some ⟨w2.heap.size + 1, 0, none⟩) 1 1) 0 := by
    refine ⟨⟨?_, ?_⟩, ?_, by simp, by simp⟩
    · intro i p hp
      cases i with
      | succ i => simp at hp
      | zero =>
        simp at hp; subst hp
        refine ⟨[], [], 0, H2.below a3, ⟨hB2, ?_, World.ownsRow_nil _ _ _ _⟩, holds_nil _ _, by omega, by simp, by simp⟩
        exact blk_alloc (heap_alloc_new _ _) _
    · intro i j p q hij hp hq
      cases i with
      | succ i => simp at hp
      | zero => cases j with
        | succ j => simp at hq
        | zero => exact absurd rfl hij
    · have := World.ownsRow_lit (base := B) (e := 31) (size := 2) (w2.alloc (.cells #[.int .i64 o, .slice none 0 0] 29)) #[.pointer (some ⟨hb, 0, none⟩), .pointer (some ⟨w2.heap.size, 0, none⟩)] 1 (by simp; omega) (by decide) (by rfl)
      simpa [flatP, cP] using this
  generalize ((w2.alloc (.cells #[.int .i64 o, .slice none 0 0] 29)).alloc (.cells #[.pointer (some ⟨hb, 0, none⟩), .pointer (some ⟨w2.heap.size, 0, none⟩)] 31)) = W3 at *
  clear a3 H2 c2 hB2 hrb
  go_loopw [5, 6, 7, 8, 9] (fun s5 s6 s7 s8 s9 wr => ∃ (i : Nat) (ps : List Tw), s6 = .int .i64 i ∧ i ≤ n ∧ Pairs B wr o ps s5 i ∧ Below B w wr) (fun _ s6 _ _ _ _ => n - (intOf s6).toNat)
  case atStart => exact ⟨0, _, rfl, by omega, hP, c3⟩
  case round =>
    clear hP c3
    obtain ⟨i, ps, rfl, hi, hP, hw⟩ := hrel
    obtain ⟨g, c5, rfl, hg1, hg2, hg3⟩ := hP.form
    have hBr := Nat.le_trans hBl hw.size
    by_cases hlt : i < n
    · have his : i < os.length := by have := HN.out; omega
      obtain ⟨k0, k1, k2⟩ := HSC.out i _ (List.getElem?_eq_getElem his)
      have k0 := (hw.cell (p := ⟨sb, so_ + i * 3, none⟩) hsB).trans k0
      have k1 := (hw.cell (p := ⟨sb, so_ + i * 3 + 1, none⟩) hsB).trans k1
      have k2 := (hw.cell (p := ⟨sb, so_ + i * 3 + 2, none⟩) hsB).trans k2
      generalize os[i] = x at *
      obtain ⟨kd, on, key⟩ := x
      simp only at k0 k1 k2
      have i1 : (0 : Int) ≤ (i : Int) := by omega
      have i2 : (i : Int) < (n : Int) := by omega
      obtain ⟨p0, p1⟩ := hP.at_ 0 hP.pos
      have hpos := hP.pos
      have hfew := hP.few
      have hq0 := List.getElem?_eq_getElem hpos
      obtain ⟨m, hm⟩ : ∃ m, m = ps.length := ⟨_, rfl⟩
      have HP := Lib.hid hP
      have HM := Lib.hid hm
      simp only [Nat.zero_mul, Nat.zero_add] at p0 p1
      generalize ps[0] = q0 at *
      obtain ⟨hb0, rb0, v0, u0⟩ := q0
      simp only at p0 p1
      rw [← hm] at hpos hfew hg3 ⊢
      have j1 : (0 : Int) < (m : Int) := by omega
      clear hP hm
      have HQ0 := Lib.hid hq0
      clear hq0
      go_upto_region 11 with fail
      have b7 : ((wr.alloc (.cells #[.int .i64 kd, .int .i64 on, .int .i64 key] 34)).alloc (.cells #[.pointer (some ⟨hb0, 0, none⟩), .pointer (some ⟨rb0, 0, none⟩)] 31)).heap[wr.heap.size]? = some (.cells #[.int .i64 kd, .int .i64 on, .int .i64 key] 34 (0, 0)) := blk_alloc (heap_alloc_new _ _) _
      have b8 : ((wr.alloc (.cells #[.int .i64 kd, .int .i64 on, .int .i64 key] 34)).alloc (.cells #[.pointer (some ⟨hb0, 0, none⟩), .pointer (some ⟨rb0, 0, none⟩)] 31)).heap[wr.heap.size + 1]? = some (.cells #[.pointer (some ⟨hb0, 0, none⟩), .pointer (some ⟨rb0, 0, none⟩)] 31 (0, 0)) := by
        have := heap_alloc_new (wr.alloc (.cells #[.int .i64 kd, .int .i64 on, .int .i64 key] 34)) (.cells #[.pointer (some ⟨hb0, 0, none⟩), .pointer (some ⟨rb0, 0, none⟩)] 31)
        simpa using this
      have a8 : Below wr.heap.size wr ((wr.alloc (.cells #[.int .i64 kd, .int .i64 on, .int .i64 key] 34)).alloc (.cells #[.pointer (some ⟨hb0, 0, none⟩), .pointer (some ⟨rb0, 0, none⟩)] 31)) := ((Below.refl _ _).alloc (Nat.le_refl _) _).alloc (by simp) _
      generalize ((wr.alloc (.cells #[.int .i64 kd, .int .i64 on, .int .i64 key] 34)).alloc (.cells #[.pointer (some ⟨hb0, 0, none⟩), .pointer (some ⟨rb0, 0, none⟩)] 31)) = W4 at *
      have d0 := blk_cell b7 0
      have d1 := blk_cell b7 1
      have d2 := blk_cell b7 2
      have e0 := blk_cell b8 0
      have e1 := blk_cell b8 1
      have f0 := blk_frozen b8 0
      have f1 := blk_frozen b8 1
      simp at d0 d1 d2 e0 e1
      obtain ⟨z, hz⟩ : ∃ z, z = wr.heap.size := ⟨_, rfl⟩
      rw [← hz] at b7 b8 a8 d0 d1 d2 e0 e1 f0 f1 ⊢
      have HZ := Lib.hid hz
      clear hz
      clear k0 k1 k2 p0 p1 
      go_cut [50] (fun s50 wx => s50 = .bool (decide (0 < on ∧ on < m)) ∧ wx = W4)
      case first =>
        by_cases t1 : 0 < on
        · have t2 : decide (0 < on) = true := decide_eq_true t1
          by_cases t3 : on < m
          · have t4 : decide (on < (m : Int)) = true := decide_eq_true t3
            go_wp2_with fail
            go_meet
            exact ⟨by simp [t1, t3], rfl⟩
          · have t4 : decide (on < (m : Int)) = false := decide_eq_false t3
            go_wp2_with fail
            go_meet
            exact ⟨by simp [t1, t3], rfl⟩
        · have t2 : decide (0 < on) = false := decide_eq_false t1
          go_wp2_with fail
          go_meet
          exact ⟨by simp [t1]; omega, rfl⟩
      case rest =>
        obtain ⟨rfl, rfl⟩ := hcut
        go_upto_if 50 with fail
        go_cut [] (fun wy => ∃ (idx : Nat) (q : Tw), ps[idx]? = some q ∧ wy.heap[z]? = some (.cells #[.int .i64 kd, .int .i64 on, .int .i64 key] 34 (0, 0)) ∧ wy.heap[z + 1]? = some (.cells #[.pointer (some ⟨q.hb, 0, none⟩), .pointer (some ⟨q.rb, 0, none⟩)] 31 (0, 0)) ∧ Below z wr wy)
        case first =>
          by_cases t1 : 0 < on ∧ on < m
          · have t2 : decide (0 < on ∧ on < m) = true := decide_eq_true t1
            obtain ⟨k, rfl⟩ : ∃ k : Nat, on = k := ⟨on.toNat, by omega⟩
            have hk : k < ps.length := by have := HM.out; omega
            have hqk := List.getElem?_eq_getElem hk
            have hPx := HP.out.below (HZ.out ▸ a8)
            obtain ⟨p0, p1⟩ := hPx.at_ k hk
            generalize ps[k] = q at *
            have HQK := Lib.hid hqk
            have HT1 := Lib.hid t1
            have k2 : (k : Int) < (m : Int) := by omega
            clear hqk hPx t1
            go_wp2_with fail
            go_meet
            refine ⟨k, q, HQK.out, ?_, ?_, (a8.setCell (by simp) _).setCell (by simp) _⟩
            · exact blk_far (blk_far b7 (by simp) _) (by simp) _
            · exact blk_set (blk_set b8 0 _) 1 _
          · have t2 : decide (0 < on ∧ on < m) = false := decide_eq_false t1
            go_wp2_with fail
            go_meet
            exact ⟨0, _, HQ0.out, b7, b8, a8⟩
        case rest =>
          clear b7 b8 a8 d0 d1 d2 e0 e1 f0 f1
          obtain ⟨idx, q, hq, b7, b8, a9⟩ := hcut
          obtain ⟨W5, hW5⟩ : ∃ W5, W5 = wc := ⟨_, rfl⟩
          subst hW5
          have d0 := blk_cell b7 0
          have d1 := blk_cell b7 1
          have d2 := blk_cell b7 2
          have e0 := blk_cell b8 0
          have e1 := blk_cell b8 1
          simp at d0 d1 d2 e0 e1
          have hz1 := blk_lt b8
          have HQ := Lib.hid hq
          have hP5 := HP.out.below (HZ.out ▸ a9)
          have hB5 : B ≤ W5.heap.size := by have := HZ.out; omega
          have hBz : B ≤ z := by have := HZ.out; omega
          clear hq
          by_cases h5 : kd = 5
          · subst h5
            go_upto_region 14 with fail
            obtain ⟨l, R, nx, T⟩ := hP5.st.tw idx q HQ.out
            have hll : l.length = R.length := T.hs.perm.length_eq
            have hln := T.ln
            have H8 := T.hp
            have H9 := T.rf
            have HS := Lib.hid T.hs
            have b24 : l.length * 24 ≤ 140737488355328 := by omega
            have b16 : (R.map (·.v)).length * 16 ≤ 140737488355328 := by rw [List.length_map]; omega
            have hn0 := T.n0
            have hn1 := T.n1
            have HP5 := Lib.hid hP5
            clear hP5 T HP HQ0
            obtain ⟨hbq, rbq, vq, uq⟩ := q
            simp only at H8 H9 e0 e1 
            have hdr : Below W5.heap.size W5 W5.drew := (Below.refl _ _).drew
            have hzz : ¬ W5.heap.size = z + 1 := by omega
            go_cut [9] (fun s9 wy => ∃ xb hb' rb' v' u', s9 = .pointer (some ⟨xb, 0, none⟩) ∧ wy.heap[xb]? = some (.cells #[.pointer (some ⟨hb', 0, none⟩), .pointer (some ⟨rb', 0, none⟩)] 31 (0, 0)) ∧ Twin W5.heap.size wy hb' rb' o v' u' i ∧ Below W5.heap.size W5 wy ∧ W5.heap.size ≤ xb)
            case first =>
              go_region_held3 (fun w' => w'.cell? ⟨z + 1, 0, none⟩ = some (.pointer (some ⟨hbq, 0, none⟩)) ∧ w'.cell? ⟨z + 1, 1, none⟩ = some (.pointer (some ⟨rbq, 0, none⟩)))
                (first | exact ⟨e0, e1⟩ | exact ⟨g0, g1⟩ | exact ⟨y0, y1⟩ | go_keep)
                (first
                  | (go_at_call 8
                     first
                       | refine (HT.copy_c (H8.below hdr) b24).mono ?_
                       | refine (HT.copy_c (H8.below hc2) b24).mono ?_
                       | refine (HT.copy_c (H8.below (hdr.alloc hdr.size _)) b24).mono ?_
                       | refine (HT.copy_c (H8.below (hc2.alloc hc2.size _)) b24).mono ?_
                     rintro e w8 ⟨nb8, v8, rfl, G8, hb1⟩
                     first
                       | have hc1 : Below W5.heap.size W5 w8 := hdr.trans hb1
                       | have hc1 : Below W5.heap.size W5 w8 := hc2.trans (hb1.mono hc2.size)
                       | have hc1 : Below W5.heap.size W5 w8 := (hdr.alloc hdr.size _).trans (hb1.mono (le_alloc_drew W5 Z31))
                       | have hc1 : Below W5.heap.size W5 w8 := (hc2.alloc hc2.size Z31).trans (hb1.mono (Nat.le_trans hc2.size (le_alloc w9 Z31)))
                     have g0 := (hc1.cell (p := ⟨z + 1, 0, none⟩) hz1).trans e0
                     have g1 := (hc1.cell (p := ⟨z + 1, 1, none⟩) hz1).trans e1
                     have g2 := Nat.lt_of_lt_of_le hz1 hc1.size
                     have g3 : ¬ w8.heap.size = z + 1 := Ne.symm (Nat.ne_of_lt g2)
                     first
                       | have G8n : HT.Heap W5.heap.size w8 nb8 (fo o) v8 l nx := G8.weaken (Nat.le_refl _)
                       | have G8n : HT.Heap W5.heap.size w8 nb8 (fo o) v8 l nx := G8.weaken hc2.size
                       | have G8n : HT.Heap W5.heap.size w8 nb8 (fo o) v8 l nx := G8.weaken (le_alloc_drew W5 Z31)
                       | have G8n : HT.Heap W5.heap.size w8 nb8 (fo o) v8 l nx := G8.weaken (Nat.le_trans hc2.size (le_alloc w9 Z31))
                     first
                       | have tw : Twin W5.heap.size w8 nb8 nb9 o v8 uu i := ⟨l, R, nx, G8n, G9n.below hb1, HS.out, hn0, hn1, hln⟩
                       | have tw : Twin W5.heap.size w8 nb8 nb9 o v8 uu i := ⟨l, R, nx, G8n, (G9n.below ((Below.refl _ _).alloc (Nat.le_refl _) Z31)).below hb1, HS.out, hn0, hn1, hln⟩
                       | skip
                     first
                       | have za : w8.heap[W5.heap.size]? = some Z31 := (hb1.block _ (lt_alloc_drew W5 Z31)).trans (heap_alloc_new W5.drew Z31)
                         obtain ⟨zc0, zc1, zf0, zf1, zl⟩ := z_facts za
                       | have za : w8.heap[W5.heap.size]? = some Z31 := (hb1.block _ (blk_lt zb)).trans zb
                         obtain ⟨zc0, zc1, zf0, zf1, zl⟩ := z_facts za
                       | have zc : w8.heap[w9.heap.size]? = some Z31 := (hb1.block _ (lt_alloc w9 Z31)).trans (heap_alloc_new w9 Z31)
                         obtain ⟨zc0, zc1, zf0, zf1, zl⟩ := z_facts zc
                       | skip)
                  | (go_at_call 9
                     first
                       | refine (Ref.copy_c (H9.below hdr) b16).mono ?_
                       | refine (Ref.copy_c (H9.below hc1) b16).mono ?_
                       | refine (Ref.copy_c (H9.below (hdr.alloc hdr.size _)) b16).mono ?_
                       | refine (Ref.copy_c (H9.below (hc1.alloc hc1.size _)) b16).mono ?_
                     rintro e w9 ⟨nb9, uu, rfl, G9, hb2⟩
                     first
                       | have hc2 : Below W5.heap.size W5 w9 := hdr.trans hb2
                       | have hc2 : Below W5.heap.size W5 w9 := hc1.trans (hb2.mono hc1.size)
                       | have hc2 : Below W5.heap.size W5 w9 := (hdr.alloc hdr.size _).trans (hb2.mono (le_alloc_drew W5 Z31))
                       | have hc2 : Below W5.heap.size W5 w9 := (hc1.alloc hc1.size Z31).trans (hb2.mono (Nat.le_trans hc1.size (le_alloc w8 Z31)))
                     have y0 := (hc2.cell (p := ⟨z + 1, 0, none⟩) hz1).trans e0
                     have y1 := (hc2.cell (p := ⟨z + 1, 1, none⟩) hz1).trans e1
                     have y2 := Nat.lt_of_lt_of_le hz1 hc2.size
                     have y3 : ¬ w9.heap.size = z + 1 := Ne.symm (Nat.ne_of_lt y2)
                     first
                       | have G9n : Ref.Heap W5.heap.size w9 nb9 o uu (R.map (·.v)) := G9.weaken (Nat.le_refl _)
                       | have G9n : Ref.Heap W5.heap.size w9 nb9 o uu (R.map (·.v)) := G9.weaken hc1.size
                       | have G9n : Ref.Heap W5.heap.size w9 nb9 o uu (R.map (·.v)) := G9.weaken (le_alloc_drew W5 Z31)
                       | have G9n : Ref.Heap W5.heap.size w9 nb9 o uu (R.map (·.v)) := G9.weaken (Nat.le_trans hc1.size (le_alloc w8 Z31))
                     first
                       | have tw : Twin W5.heap.size w9 nb8 nb9 o v8 uu i := ⟨l, R, nx, G8n.below hb2, G9n, HS.out, hn0, hn1, hln⟩
                       | have tw : Twin W5.heap.size w9 nb8 nb9 o v8 uu i := ⟨l, R, nx, (G8n.below ((Below.refl _ _).alloc (Nat.le_refl _) Z31)).below hb2, G9n, HS.out, hn0, hn1, hln⟩
                       | skip
                     first
                       | have zb : w9.heap[W5.heap.size]? = some Z31 := (hb2.block _ (lt_alloc_drew W5 Z31)).trans (heap_alloc_new W5.drew Z31)
                         obtain ⟨zc0, zc1, zf0, zf1, zl⟩ := z_facts zb
                       | have zb : w9.heap[W5.heap.size]? = some Z31 := (hb2.block _ (blk_lt za)).trans za
                         obtain ⟨zc0, zc1, zf0, zf1, zl⟩ := z_facts zb
                       | have zd : w9.heap[w8.heap.size]? = some Z31 := (hb2.block _ (lt_alloc w8 Z31)).trans (heap_alloc_new w8 Z31)
                         obtain ⟨zc0, zc1, zf0, zf1, zl⟩ := z_facts zd
                       | skip))
              all_goals
                go_wp2_with fail
                go_meet
                first
                  | exact ⟨_, nb8, nb9, v8, uu, rfl, heap_alloc_new _ _, tw.below ((Below.refl _ _).alloc (Nat.le_refl _) _), hc2.alloc hc2.size _, hc2.size⟩
                  | exact ⟨_, nb8, nb9, v8, uu, rfl, blk_set (blk_set zb 0 _) 1 _, (tw.set31 zb 0 _).set31 (blk_set zb 0 _) 1 _, (hc2.setCell (Nat.le_refl _) _).setCell (Nat.le_refl _) _, Nat.le_refl _⟩
                  | exact ⟨_, nb8, nb9, v8, uu, rfl, blk_set (blk_set zd 0 _) 1 _, (tw.set31 zd 0 _).set31 (blk_set zd 0 _) 1 _, (hc2.setCell hc1.size _).setCell hc1.size _, hc1.size⟩
                  | exact ⟨_, nb8, nb9, v8, uu, rfl, heap_alloc_new _ _, tw.below ((Below.refl _ _).alloc (Nat.le_refl _) _), hc1.alloc hc1.size _, hc1.size⟩
                  | exact ⟨_, nb8, nb9, v8, uu, rfl, blk_set (blk_set za 0 _) 1 _, (tw.set31 za 0 _).set31 (blk_set za 0 _) 1 _, (hc1.setCell (Nat.le_refl _) _).setCell (Nat.le_refl _) _, Nat.le_refl _⟩
                  | exact ⟨_, nb8, nb9, v8, uu, rfl, blk_set (blk_set zc 0 _) 1 _, (tw.set31 zc 0 _).set31 (blk_set zc 0 _) 1 _, (hc1.setCell hc2.size _).setCell hc2.size _, hc2.size⟩
            case rest =>
              obtain ⟨xb, hbn, rbn, vn, un, rfl, bx, tw, c6, hxb⟩ := hcut
              obtain ⟨W6, hW6⟩ : ∃ W6, W6 = wc := ⟨_, rfl⟩
              subst hW6
              have x0 := blk_cell bx 0
              have x1 := blk_cell bx 1
              simp at x0 x1
              have hP6 := HP5.out.below c6
              have hB6 := Nat.le_trans hB5 c6.size
              have c7 := hw.trans ((a9.mono hBz).trans (c6.mono hB5))
              have hxl := blk_lt bx
              by_cases h55 : m < 5
              · have h56 : decide ((m : Int) < 5) = true := decide_eq_true (by omega)
                have hrow := hP6.row
                have hst := HP5.out.st.add c6 ⟨hbn, rbn, vn, un⟩ (tw.weaken hB5) (tw.base_ge _ (.inl rfl)) (tw.base_ge _ (.inr (.inl rfl))) (fun k hk => tw.base_ge _ (.inr (.inr (.inl hk)))) (fun k hk => tw.base_ge _ (.inr (.inr (.inr hk))))
                rw [← HM.out] at hrow
                have HST := Lib.hid hst
                have HTW := Lib.hid tw
                clear hst tw hP6 H8 H9 e0 e1 b7 b8 bx
                go_wp2_with (at_builtin; refine wpList_append_lies _ rfl (.tmp 72) (.tmp 74) _ rfl B 31 i0 _ 2 16 Try.underlying32 hi0 hz0 hzs hz2 rfl (by omega) _ _ _ rfl (hrow.alloc _) ⟨W6.heap.size, 0, none⟩ 1 1 [.pointer (some ⟨hbn, 0, none⟩), .pointer (some ⟨rbn, 0, none⟩)] rfl rfl (World.news_of_block (cs := #[.pointer (some ⟨hbn, 0, none⟩), .pointer (some ⟨rbn, 0, none⟩)]) (t := 31) (fr := (0, 0)) (heap_alloc_new _ _)) (by simp [Value.oneCell']) (by omega) (by unfold maxLen; omega) (by omega) (by simp; omega) (W6.heap.size + 1) (by simp) ?_; intro g1 cap1 w7 hown1 hgrow1 hat1 hlt1)
                have a7 : Below W6.heap.size W6 (W6.alloc (.cells #[.pointer (some ⟨hbn, 0, none⟩), .pointer (some ⟨rbn, 0, none⟩)] 31)) := (Below.refl _ _).alloc (Nat.le_refl _) _
                have F7 : Frs W6 w7 (fun k => (Value.slice (some ⟨g, 0, none⟩) m c5).ownBlock = some k) := ⟨hgrow1.os.trans a7.os, hgrow1.tape.trans a7.tape, hgrow1.output.trans a7.output, Nat.le_trans a7.size hgrow1.size, fun k hk hn => (hgrow1.block k (Nat.lt_of_lt_of_le hk a7.size) (fun e => hn e.symm)).trans (a7.block k hk)⟩
                have h7 : Pairs B w7 o (ps ++ [⟨hbn, rbn, vn, un⟩]) (.slice (some ⟨g1, 0, none⟩) (m + 1) cap1) (i + 1) := by
                  refine ⟨(HST.out.row31 hrow F7).mono (by omega), ?_, by simp, by simp; have := HM.out; omega⟩
                  rw [flatP_append, List.length_append, ← HM.out]
                  exact hown1
                have c8 : Below B w w7 := c7.trans (F7.below hB6 (fun k hk => by have := (hrow.lt k hk).1; exact this))
                go_roundw
                case rel => exact ⟨i + 1, _, by go_num, by omega, h7, c8⟩
                case measure => simp [intOf]; omega
              · have h56 : decide ((m : Int) < 5) = false := decide_eq_false (by omega)
                have h7 : Pairs B W6 o ps (.slice (some ⟨g, 0, none⟩) m c5) (i + 1) := by
                  rw [HM.out]; exact hP6.mono (by omega)
                have HP7 := Lib.hid h7
                clear h7 tw hP6 H8 H9 e0 e1 b7 b8 bx
                go_wp2_with fail
                go_roundw
                case rel => exact ⟨i + 1, _, by go_num, by omega, HP7.out, c7⟩
                case measure => simp [intOf]; omega
          · have h55 : (kd == 5) = false := by simp [h5]
            have HP5 := Lib.hid hP5
            clear hP5 HP HQ0
            have H5 := Lib.hid h5
            clear h5
            go_wp2_with fail
            refine (step_any (HP5.out.st.tw idx q HQ.out) hB5 (by omega) kd on key i).mono ?_
            rintro e w6 ⟨rfl, v', u', T6, F6, m1, m2⟩
            have h7 : Pairs B w6 o (ps.set idx ⟨q.hb, q.rb, v', u'⟩) (.slice (some ⟨g, 0, none⟩) m c5) (i + 1) := by
              rw [HM.out]; exact HP5.out.step idx q HQ.out T6 (by omega) F6 m1 m2
            have c7 : Below B w w6 := hw.trans ((a9.mono hBz).trans (HP5.out.frs_below idx q HQ.out F6 hB5))
            have HP7 := Lib.hid h7
            clear h7 T6 F6 m1 m2
            go_wp2_with fail
            go_roundw
            case rel => exact ⟨i + 1, _, by go_num, by omega, HP7.out, c7⟩
            case measure => simp [intOf]; omega
    · have hin : i = n := by omega
      subst hin
      have hpos := hP.pos
      have hfew := hP.few
      obtain ⟨m, hm⟩ : ∃ m, m = ps.length := ⟨_, rfl⟩
      have hP' : Pairs B wr o ps (.slice (some ⟨g, 0, none⟩) m c5) i := by rw [hm]; exact hP
      rw [← hm] at hpos hfew hg3 ⊢
      have HP := Lib.hid hP'
      have HM := Lib.hid hm
      clear hP hP' hm
      obtain ⟨W4, hW4⟩ : ∃ W4, W4 = wr := ⟨_, rfl⟩
      subst hW4
      go_wp2_with fail
      go_loopw [10, 11] (fun s10 s11 wr => ∃ (k : Nat) (ps : List Tw), s10 = .int .i64 k ∧ k ≤ m ∧ Hid (m = ps.length) ∧ Hid (Pairs B wr o ps (.slice (some ⟨g, 0, none⟩) m c5) i) ∧ Below B w wr) (fun s10 _ _ => m - (intOf s10).toNat)
      case atStart => exact ⟨0, ps, rfl, by omega, HM, HP, hw⟩
      case round =>
        clear HP HM hw
        obtain ⟨k, ps, rfl, hk, HM, HP, hw⟩ := hrel
        by_cases hkm : k < m
        · have hks : k < ps.length := by have := HM.out; omega
          have hP2 : Pairs B wr o ps (.slice (some ⟨g, 0, none⟩) ps.length c5) i := by rw [← HM.out]; exact HP.out
          obtain ⟨p0, p1⟩ := hP2.at_ k hks
          have hqk := List.getElem?_eq_getElem hks
          generalize ps[k] = q at *
          have HQ := Lib.hid hqk
          obtain ⟨l, R, nx, T⟩ := hP2.st.tw k q hqk
          obtain ⟨a, cc, hsh⟩ := T.rf.shape
          have e1 := blk_cell T.rf.blk 1
          rw [hsh] at e1
          simp at e1
          have hln := T.ln
          obtain ⟨r, hr⟩ : ∃ r, r = R.length := ⟨_, rfl⟩
          have hrl := blk_lt T.rf.blk
          rw [← hr] at e1 hln
          clear hP2 hqk T hsh hr
          have i1 : (0 : Int) ≤ (k : Int) := by omega
          have i2 : (k : Int) < (m : Int) := by omega
          obtain ⟨W7, hW7⟩ : ∃ W7, W7 = wr := ⟨_, rfl⟩
          subst hW7
          go_wp2_with fail
          go_loopw [11] (fun s11 wr => ∃ (j : Nat) (ps : List Tw), s11 = .int .i64 ((j : Int) - 1) ∧ j ≤ i + 1 ∧ Hid (m = ps.length) ∧ Hid (Pairs B wr o ps (.slice (some ⟨g, 0, none⟩) m c5) i) ∧ Below B w wr) (fun s11 _ => ((intOf s11) + 1).toNat)
          case atStart => exact ⟨r + 1, ps, by go_num, by omega, HM, HP, hw⟩
          case round =>
            clear HP HM HQ hw p0 p1 hks e1 hrl
            obtain ⟨j, ps, rfl, hj, HM, HP, hw⟩ := hrel
            by_cases hj0 : 0 < j
            · have hks : k < ps.length := by have := HM.out; omega
              have hP2 : Pairs B wr o ps (.slice (some ⟨g, 0, none⟩) ps.length c5) i := by rw [← HM.out]; exact HP.out
              obtain ⟨p0, p1⟩ := hP2.at_ k hks
              have hqk := List.getElem?_eq_getElem hks
              generalize ps[k] = q at *
              have HQ := Lib.hid hqk
              have T := hP2.st.tw k q hqk
              have hBr := Nat.le_trans hBl hw.size
              have hc0 : (0 : Int) ≤ (j : Int) - 1 := by omega
              have hT := Lib.hid T
              clear hP2 hqk T
              go_wp2_with fail
              refine (step_pop hT.out hBr (by omega) 0 0 0).mono ?_
              rintro e w6 ⟨rfl, v', u', T6, F6, m1, m2⟩
              have h7 : Pairs B w6 o (ps.set k ⟨q.hb, q.rb, v', u'⟩) (.slice (some ⟨g, 0, none⟩) m c5) i := HP.out.step k q HQ.out T6 (Nat.le_refl _) F6 m1 m2
              have c7 : Below B w w6 := hw.trans (HP.out.frs_below k q HQ.out F6 hBr)
              have HP7 := Lib.hid h7
              have HM7 : Hid (m = (ps.set k ⟨q.hb, q.rb, v', u'⟩).length) := by rw [List.length_set]; exact HM
              clear h7 T6 F6 m1 m2
              go_wp2_with fail
              go_roundw
              case rel => exact ⟨j - 1, _, by go_num, by omega, HM7, HP7, c7⟩
              case measure => simp [intOf]; omega
            · have hj1 : j = 0 := by omega
              subst hj1
              go_wp2_with fail
              go_roundw
              case rel => exact ⟨k + 1, ps, by go_num, by omega, HM, HP, hw⟩
              case measure => simp [intOf]; omega
        · have hkm2 : k = m := by omega
          subst hkm2
          go_wp2_with fail
          go_ret
          exact ⟨rfl, hw⟩
end Go.Proofs.Ytcppiidfaaafeaa
