/- HeapGreat: the walk. -/
import Derived.Test.YtcppiidfaaafeaaTaken
import Derived.Test.YtcppiidfaaafeaaHTPop
import Derived.Deep.DeepCutAuto
set_option linter.unusedVariables false
set_option linter.unusedSimpArgs false
namespace Go.Proofs.Ytcppiidfaaafeaa
open Go.RowKit
open Pl
namespace HT
theorem Heap.row_ge {B : Nat} {w : World} {hb f : Nat} {v : Value} {l : List (Th K)} {nx : Int} (h : Heap B w hb f v l nx) : ∀ k, v.ownBlock = some k → B ≤ k := fun k hk => (h.own.lt k hk).1
theorem Heap.fr_below {B : Nat} {w w' : World} {hb f : Nat} {v : Value} {l : List (Th K)} {nx : Int} (h : Heap B w hb f v l nx) (F : Fr w w' hb v.ownBlock) (hB : B ≤ w.heap.size) : Below B w w' :=
  F.below hB h.base h.row_ge
/-- Another block, of another type, written. -/
theorem Heap.setOther {B : Nat} {w : World} {hb f r t : Nat} {v : Value} {l : List (Th K)} {nx : Int} {cs : Array Value} (h : Heap B w hb f v l nx) (hr : w.heap[r]? = some (.cells cs t (0, 0))) (h1 : t ≠ 66) (h2 : t ≠ 69) (o : Nat) (u : Value) :
    Heap B (w.setCell ⟨r, o, none⟩ u) hb f v l nx := by
  have F := (Fr.refl w r none).setCell (p := ⟨r, o, none⟩) (.inl rfl) u
  refine ⟨h.base, F.blk h.blk (fun e => h1 ?_) (by simp), F.own h.own ?_ (by cases v.ownBlock <;> simp)⟩
  · subst e; have := h.blk; rw [hr] at this; injection this with this; injection this
  · intro e
    rcases h.own.2 with ⟨h3, _⟩ | ⟨g, cap, cur, h3, _, hh, _⟩
    · rw [h3] at e; simp [Value.ownBlock] at e
    · rw [h3] at e; simp [Value.ownBlock] at e; subst e
      rw [hr] at hh; injection hh with hh; injection hh with _ hh; exact h2 hh
end HT
theorem and_mask (a : Int) (m : Nat) (hm : m = 4095 ∨ m = 1023) : 0 ≤ bits .and .i64 a (m : Int) ∧ bits .and .i64 a (m : Int) ≤ m := by
  have e : bits .and .i64 a (m : Int) = IntKind.i64.wrap (((BitVec.ofInt 64 a).toNat &&& m : Nat) : Int) := by
    show IntKind.i64.wrap ((BitVec.ofInt 64 a &&& BitVec.ofInt 64 (m : Int)).toNat : Int) = _
    rw [BitVec.toNat_and]
    have : (BitVec.ofInt 64 (m : Int)).toNat = m := by rcases hm with rfl | rfl <;> rfl
    rw [this]
  have hle : (BitVec.ofInt 64 a).toNat &&& m ≤ m := Nat.and_le_right
  rw [e, IntKind.wrap_i64]
  omega
theorem and4095 (a : Int) : 0 ≤ bits .and .i64 a 4095 ∧ bits .and .i64 a 4095 ≤ 4095 := and_mask a 4095 (.inl rfl)
theorem and1023 (a : Int) : 0 ≤ bits .and .i64 a 1023 ∧ bits .and .i64 a 1023 ≤ 1023 := and_mask a 1023 (.inr rfl)

/-- What is said of the things that were pushed. -/
def Fair (l : List (Th HT.K)) (nx : Int) : Prop := (∃ R, Holds (keyOf 0) l R nx) ∧ ∀ x ∈ l, 0 ≤ x.v.key ∧ x.v.name = x.no ∧ 0 ≤ x.no
theorem fair_nil : Fair [] 0 := ⟨⟨[], holds_nil _ _⟩, by simp⟩
theorem Fair.push {l : List (Th HT.K)} {nx : Int} (h : Fair l nx) (x : HT.K) (h1 : 0 ≤ x.key) (h2 : x.name = nx) (h3 : 0 ≤ nx) : Fair (push (byKey (keyOf 0)) l x nx) (nx + 1) := by
  obtain ⟨⟨R, hR⟩, hx⟩ := h
  refine ⟨⟨_, hR.push (keyOf 0) x⟩, ?_⟩
  intro y hy
  have := (push_perm (byKey (keyOf 0)) l x nx).mem_iff.1 hy
  rcases List.mem_append.1 this with h | h
  · exact hx y h
  · simp at h; subst h; exact ⟨h1, h2, h3⟩
/-- All that is left comes behind what was popped last. -/
def Behind (k n : Int) (l : List (Th HT.K)) : Prop := ∀ x ∈ l, k < x.v.key ∨ (k = x.v.key ∧ n < x.v.name)
theorem Fair.pop {l : List (Th HT.K)} {nx : Int} (h : Fair l nx) (h0 : 0 < l.length) : Fair (rest (byKey (keyOf 0)) l) nx ∧ Behind l[0].v.key l[0].v.name (rest (byKey (keyOf 0)) l) := by
  obtain ⟨⟨R, hR⟩, hx⟩ := h
  obtain ⟨k, hk, hk1, hk2, hk3⟩ := hR.pop (keyOf 0) h0
  have hp := rest_perm (byKey (keyOf 0)) l h0
  have hsub : ∀ x ∈ rest (byKey (keyOf 0)) l, x ∈ l := fun x hxm => hp.mem_iff.2 (List.mem_cons_of_mem _ hxm)
  refine ⟨⟨⟨_, hk3⟩, fun x hxm => hx x (hsub x hxm)⟩, ?_⟩
  intro x hxm
  have hxl := hsub x hxm
  obtain ⟨j, hj, hxj⟩ := List.getElem_of_mem hxl
  have hle := top_le (keyOf 0) l hR.hp h0 j x (by rw [List.getElem?_eq_getElem hj, hxj])
  -- nos differ
  have hnd : (l.map (·.no)).Nodup := by
    have : (R.map (·.no)).Nodup := by
      rw [List.nodup_iff_pairwise_ne, List.pairwise_map]
      exact hR.inc.imp (fun h => by omega)
    exact ((hR.perm.map (·.no)).nodup_iff).2 this
  have hnd2 : ((l[0] :: rest (byKey (keyOf 0)) l).map (·.no)).Nodup := ((hp.map (·.no)).nodup_iff).1 hnd
  rw [List.map_cons, List.nodup_cons] at hnd2
  have hne : x.no ≠ l[0].no := fun e => hnd2.1 (e ▸ List.mem_map_of_mem hxm)
  have a1 := (hx x hxl)
  have a2 := (hx _ (List.getElem_mem h0))
  unfold lex keyOf at hle
  simp only [if_pos rfl] at hle
  simp only [if_true] at hle
  omega

set_option maxRecDepth 100000 in
set_option maxHeartbeats 2000000 in
theorem great_c (n jump : Int) (w : World) : Calls Try.prog 5 #[.int .i64 n, .int .i64 jump] w fun e w' => e = .returned (.bool true) ∧ Below w.heap.size w w' := by
  obtain ⟨B, hB⟩ : ∃ B, B = w.heap.size := ⟨_, rfl⟩
  rw [← hB]
  have hBl : B ≤ w.heap.size := by omega
  clear hB
  go_enter Try.func5, Try.ntmps5
  go_wp2_with fail
  refine (taken_c _).mono ?_
  rintro e w1 ⟨rfl, b1⟩
  have c1 : Below B w w1 := b1.mono hBl
  clear b1
  go_upto_region 3 with fail
  go_cut [19] (fun s wx => s = .bool (decide (n < 0) || decide (5000 < n)) ∧ Below B w wx)
  case first =>
    by_cases h1 : n < 0
    · go_wp2_with fail
      go_meet
      exact ⟨by simp [h1], c1⟩
    · by_cases h2 : 5000 < n
      · go_wp2_with fail
        go_meet
        exact ⟨by simp [h2], c1⟩
      · go_wp2_with fail
        go_meet
        exact ⟨by simp [h1, h2], c1⟩
  case rest =>
    obtain ⟨rfl, c2⟩ := hcut
    clear c1
    go_upto_if 19 with fail
    go_cut [0] (fun s wx => (∃ N : Nat, N ≤ 5000 ∧ s = .int .i64 N) ∧ Below B w wx)
    case first =>
      by_cases h1 : n < 0
      · simp only [h1, decide_true, Bool.true_or]
        go_wp2_with fail
        go_meet
        exact ⟨⟨5000, by omega, rfl⟩, c2⟩
      · by_cases h2 : 5000 < n
        · simp only [h1, h2, decide_true, Bool.or_true]
          go_wp2_with fail
          go_meet
          exact ⟨⟨5000, by omega, rfl⟩, c2⟩
        · simp only [h1, h2, decide_false, Bool.or_false]
          go_wp2_with fail
          go_meet
          exact ⟨⟨n.toNat, by omega, by congr 1; omega⟩, c2⟩
    case rest =>
      obtain ⟨⟨N, hN, rfl⟩, c3⟩ := hcut
      clear c2
      have hB3 : B ≤ wc.heap.size := Nat.le_trans hBl c3.size
      obtain ⟨w2, hw2⟩ : ∃ w2, w2 = wc := ⟨_, rfl⟩
      subst hw2
      go_wp2_with fail
      refine (HT.new_c (B := B) 20 _ hB3).mono ?_
      rintro e w3 ⟨rfl, H3, b3⟩
      have c4 := c3.trans (b3.mono hB3)
      clear b3 c3
      obtain ⟨hb, hhb⟩ : ∃ hb, hb = w2.heap.size := ⟨_, rfl⟩
      rw [← hhb] at H3 ⊢
      clear hhb
      go_wp2_with fail
      go_loopw [6, 7] (fun s6 s7 wr => ∃ (i : Nat) (kk : Int) (v : Value) (l : List (Th HT.K)), s6 = .int .i64 kk ∧ s7 = .int .i64 i ∧ i ≤ N ∧ 0 ≤ kk ∧ kk ≤ 4095 ∧ l.length = i ∧ HT.Heap B wr hb 20 v l i ∧ Fair l i ∧ Below B w wr) (fun _ s7 _ => N - (intOf s7).toNat)
      case atStart => exact ⟨0, 1, _, [], rfl, rfl, by omega, by omega, by omega, rfl, H3, fair_nil, c4⟩
      case round =>
        obtain ⟨i, kk, v, l, rfl, rfl, hi, hk0, hk1, hl, HR, hF, cR⟩ := hrel
        clear H3 c4
        by_cases hlt : i < N
        · have m1 := and1023 jump
          have m2 := and4095 (kk * 31 + bits .and .i64 jump 1023)
          have HL := Lib.hid hl
          clear hl
          go_wp2_with fail
          obtain ⟨kv, hkv⟩ : ∃ kv, kv = bits .and .i64 (kk * 31 + bits .and .i64 jump 1023) 4095 := ⟨_, rfl⟩
          rw [← hkv]
          rw [← hkv] at m2
          clear hkv m1
          refine (HT.push_c rising_first HR ⟨kv, i⟩ (Nat.le_trans hBl cR.size) (by omega) (by omega) (by have := HL.out; omega)).mono ?_
          rintro e w4 ⟨rfl, v4, H4, F4, _⟩
          have c5 := cR.trans (HR.fr_below F4 (Nat.le_trans hBl cR.size))
          have hF2 := hF.push ⟨kv, i⟩ m2.1 rfl (by omega)
          have hl2 := push_length (byKey (keyOf 0)) l ⟨kv, i⟩ i
          have HL2 := Lib.hid hl2
          clear HR F4 cR hF hl2
          go_wp2
          go_roundw
          case rel => exact ⟨i + 1, kv, v4, _, rfl, by go_num, by omega, m2.1, m2.2, by rw [HL2.out, HL.out], H4, hF2, c5⟩
          case measure => simp [intOf]; omega
        · have hiN : i = N := by omega
          subst hiN
          have HL := Lib.hid hl
          clear hl hk0 hk1
          go_wp2_with fail
          obtain ⟨lb, hlb⟩ : ∃ lb, lb = wr.heap.size := ⟨_, rfl⟩
          have hlbB : B ≤ lb := by have := cR.size; omega
          have H6 := HR.below ((Below.refl _ _).alloc (Nat.le_refl _) (.cells #[.int .i64 (-1), .int .i64 0] 37))
          have c6 := cR.alloc (Nat.le_trans hBl cR.size) (.cells #[.int .i64 (-1), .int .i64 0] 37)
          have hk6 : (wr.alloc (.cells #[.int .i64 (-1), .int .i64 0] 37)).heap[lb]? = some (.cells #[.int .i64 (-1), .int .i64 0] 37 (0, 0)) := by rw [hlb]; exact heap_alloc_new _ _
          have hbh : Behind (-1) 0 l := fun x hx => by have := hF.2 x hx; omega
          rw [← hlb]
          clear hlb HR cR hlt hi
          go_loopw [9, 10, 11] (fun s9 s10 s11 wr => ∃ (j : Nat) (kl nl : Int) (v : Value) (l : List (Th HT.K)), s9 = .int .i64 j ∧ j + l.length = i ∧ HT.Heap B wr hb 20 v l i ∧ Fair l i ∧ Behind kl nl l ∧ wr.heap[lb]? = some (.cells #[.int .i64 kl, .int .i64 nl] 37 (0, 0)) ∧ Below B w wr) (fun s9 _ _ _ => i - (intOf s9).toNat)
          case atStart => exact ⟨0, -1, 0, v, l, rfl, by have := HL.out; omega, H6, hF, hbh, hk6, c6⟩
          case round =>
            clear H6 hF hbh hk6 c6 HL
            obtain ⟨j, kl, nl, v, l, rfl, hj, HR, hF, hbh, hk, cR⟩ := hrel
            by_cases h0 : 0 < l.length
            · have hji : j < i := by omega
              have HJ := Lib.hid hj
              have hll : l.length < 140737488355328 := by omega
              clear hj
              go_wp2_with fail
              refine (HT.pop_yes rising_first HR h0 hll).mono ?_
              rintro e w4 ⟨rfl, v4, H4, F4, _⟩
              have hbr : B ≤ wr.heap.size := Nat.le_trans hBl cR.size
              have c5 := cR.trans (HR.fr_below F4 hbr)
              have hlb1 : lb ≠ hb := blk_ne hk HR.blk (by decide)
              have hlb2 : some lb ≠ v.ownBlock := by
                intro e
                rcases HR.own.2 with ⟨h3, _⟩ | ⟨g, cap, cur, h3, _, hh, _⟩
                · rw [h3] at e; simp [Value.ownBlock] at e
                · rw [h3] at e; simp [Value.ownBlock] at e; exact blk_ne hk hh (by decide) e
              have hk4 := F4.blk hk hlb1 hlb2
              obtain ⟨hF2, hB2⟩ := hF.pop h0
              have hx := hF.2 _ (List.getElem_mem h0)
              have hx2 := hbh _ (List.getElem_mem h0)
              have hl2 := rest_length (byKey (keyOf 0)) l h0
              have HL2 := Lib.hid hl2
              have e0 := blk_cell hk4 0
              have e1 := blk_cell hk4 1
              have g0 := blk_frozen hk4 0
              have g1 := blk_frozen hk4 1
              have hlt4 := blk_lt hk4
              simp at e0 e1
              clear HR F4 cR hF hbh hk hl2
              have hxx : ∃ X, X = l[0].v := ⟨_, rfl⟩
              obtain ⟨X, hX⟩ := hxx
              rw [← hX] at hx hx2 hB2 ⊢
              clear hX
              obtain ⟨vk, vn⟩ := X
              simp only at hx hx2 hB2
              have t1 : decide (vk < kl) = false := by simp; omega
              have n1 : ¬ vk < kl := by omega
              have n2 : ¬ lb = w4.heap.size := by omega
              have n3 : ¬ w4.heap.size = lb := by omega
              by_cases hq : vk = kl
              · obtain rfl : kl = vk := hq.symm
                have t2 : (kl == kl) = true := by simp
                have t3 : decide (vn ≤ nl) = false := by simp; omega
                have t4 : ¬ vn ≤ nl := by omega
                clear hx hx2 hq
                go_wp2_with fail
                have H5 := (H4.setOther hk4 (by decide) (by decide) 0 (.int .i64 kl)).setOther (blk_set hk4 0 _) (by decide) (by decide) 1 (.int .i64 vn)
                have hk5 := blk_set (blk_set hk4 0 (.int .i64 kl)) 1 (.int .i64 vn)
                have c7 := (c5.setCell (p := ⟨lb, 0, none⟩) hlbB (.int .i64 kl)).setCell (p := ⟨lb, 1, none⟩) hlbB (.int .i64 vn)
                have hB7 : B ≤ ((w4.setCell ⟨lb, 0, none⟩ (.int .i64 kl)).setCell ⟨lb, 1, none⟩ (.int .i64 vn)).heap.size := Nat.le_trans hBl c7.size
                have H6 := H5.below ((Below.refl _ _).alloc (Nat.le_refl _) (.cells #[.int .i64 kl, .int .i64 vn] 37))
                have c8 := c7.alloc hB7 (.cells #[.int .i64 kl, .int .i64 vn] 37)
                have hk6 := blk_alloc hk5 (.cells #[.int .i64 kl, .int .i64 vn] 37)
                go_roundw
                case rel => exact ⟨j + 1, kl, vn, v4, _, by go_num, by have := HL2.out; have := HJ.out; omega, H6, hF2, hB2, hk6, c8⟩
                case measure => simp [intOf]; omega
              · have t2 : (vk == kl) = false := by simp [hq]
                clear hx hx2 hq
                go_wp2_with fail
                have H5 := (H4.setOther hk4 (by decide) (by decide) 0 (.int .i64 vk)).setOther (blk_set hk4 0 _) (by decide) (by decide) 1 (.int .i64 vn)
                have hk5 := blk_set (blk_set hk4 0 (.int .i64 vk)) 1 (.int .i64 vn)
                have c7 := (c5.setCell (p := ⟨lb, 0, none⟩) hlbB (.int .i64 vk)).setCell (p := ⟨lb, 1, none⟩) hlbB (.int .i64 vn)
                have hB7 : B ≤ ((w4.setCell ⟨lb, 0, none⟩ (.int .i64 vk)).setCell ⟨lb, 1, none⟩ (.int .i64 vn)).heap.size := Nat.le_trans hBl c7.size
                have H6 := H5.below ((Below.refl _ _).alloc (Nat.le_refl _) (.cells #[.int .i64 vk, .int .i64 vn] 37))
                have c8 := c7.alloc hB7 (.cells #[.int .i64 vk, .int .i64 vn] 37)
                have hk6 := blk_alloc hk5 (.cells #[.int .i64 vk, .int .i64 vn] 37)
                go_roundw
                case rel => exact ⟨j + 1, vk, vn, v4, _, by go_num, by have := HL2.out; have := HJ.out; omega, H6, hF2, hB2, hk6, c8⟩
                case measure => simp [intOf]; omega
            · have hl0 : l = [] := List.eq_nil_of_length_eq_zero (by omega)
              subst hl0
              simp at hj
              subst hj
              go_wp2_with fail
              refine (HT.len_c HR).mono ?_
              rintro e w4 ⟨rfl, rfl⟩
              go_wp2
              go_ret
              exact ⟨rfl, cR⟩
end Go.Proofs.Ytcppiidfaaafeaa
