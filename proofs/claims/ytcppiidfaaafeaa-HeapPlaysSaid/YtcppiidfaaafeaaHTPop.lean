/- Pop: the contract. -/
import Derived.Test.YtcppiidfaaafeaaHTSink
import Derived.Test.YtcppiidfaaafeaaHTSmall
set_option linter.unusedVariables false
set_option linter.unusedSimpArgs false
namespace Go.Proofs.Ytcppiidfaaafeaa
open Go.RowKit
namespace HT
open Pl

theorem own_take {B : Nat} {w : World} {g n m c : Nat} {l : List (Th K)} (h : w.ownsRow B 69 3 (.slice (some ⟨g, 0, none⟩) n c) n (flat l)) (hm : m ≤ n) :
    w.ownsRow B 69 3 (.slice (some ⟨g, 0, none⟩) m c) m (flat (l.take m)) := by
  have hl := h.1
  rw [flat_length] at hl
  refine ⟨by rw [flat_length, List.length_take]; congr 1; omega, ?_⟩
  rcases h.2 with ⟨h1, _⟩ | ⟨g', cap, cur, h1, hB, hh, hc, hcm, hcs, ht⟩
  · cases h1
  · injection h1 with h1 h2 h3
    injection h1 with h1
    injection h1 with h1
    subst h1; subst h3
    refine .inr ⟨g, c, cur, rfl, hB, hh, by omega, hcm, hcs, ?_⟩
    rw [flat_take, ← ht, List.take_take]
    congr 1
    exact (Nat.min_eq_left (Nat.mul_le_mul_right _ hm)).symm
/-- h.l = h.l[:m] -/
theorem Heap.cut {B : Nat} {w : World} {hb f g n m c : Nat} {l : List (Th K)} {nx : Int} (h : Heap B w hb f (.slice (some ⟨g, 0, none⟩) n c) l nx) (hm : m ≤ n) :
    Heap B (w.setCell ⟨hb, 1, none⟩ (.slice (some ⟨g, 0, none⟩) m c)) hb f (.slice (some ⟨g, 0, none⟩) m c) (l.take m) nx := by
  have hl := h.len
  have hne : g ≠ hb := fun e => h.not_row (by simp [Value.ownBlock, e])
  refine ⟨h.base, blk_set h.blk 1 _, ?_⟩
  have F := ((Fr.refl w hb none).setCell (p := ⟨hb, 1, none⟩) (.inl rfl) (.slice (some ⟨g, 0, none⟩) m c))
  have := F.own (own_take h.ownN hm) (by simp [Value.ownBlock, hne]) (.inr (by simp [Value.ownBlock]))
  rw [List.length_take, ← hl, Nat.min_eq_left hm]
  exact this
theorem rest_eq (lt : K → K → Bool) (l : List (Th K)) (m : Nat) (hm : m < l.length) (h : l.length = m + 1) : rest lt l = down lt (((l.set 0 l[m]).set m ⟨⟨0, 0⟩, 0⟩).take m) 0 := by
  have h' : l.length - 1 = m := by omega
  unfold rest
  have e : l.getLast? = some l[m] := by rw [List.getLast?_eq_getElem?, h', List.getElem?_eq_getElem hm]
  rw [e]
  simp only [h']
  rw [List.take_set_of_le (Nat.le_refl _)]
theorem Heap.setFar {B : Nat} {w : World} {hb f g n c r : Nat} {l : List (Th K)} {nx : Int} (h : Heap B w hb f (.slice (some ⟨g, 0, none⟩) n c) l nx) (h1 : ¬ r = hb) (h2 : ¬ r = g) (o : Nat) (u : Value) :
    Heap B (w.setCell ⟨r, o, none⟩ u) hb f (.slice (some ⟨g, 0, none⟩) n c) l nx := by
  have F := (Fr.refl w r none).setCell (p := ⟨r, o, none⟩) (.inl rfl) u
  exact ⟨h.base, F.blk h.blk (fun e => h1 e.symm) (by simp), F.own h.own (by simp [Value.ownBlock]; exact fun e => h2 e.symm) (.inr (by simp [Value.ownBlock]))⟩
theorem sink_c {f : Nat} {lt : K → K → Bool} (hF : First f lt) {B : Nat} {w : World} {hb g c : Nat} {l : List (Th K)} {nx : Int} {n : Nat} (H : Heap B w hb f (.slice (some ⟨g, 0, none⟩) n c) l nx) (hl : l.length < 140737488355328) :
    Calls Try.prog 43 #[.pointer (some ⟨hb, 0, none⟩)] w fun e w' => e = .returned (.tuple #[]) ∧ Heap B w' hb f (.slice (some ⟨g, 0, none⟩) n c) (down lt l 0) nx ∧ Fr w w' hb (some g) := by
  rcases Nat.eq_zero_or_pos l.length with h0 | h0
  · have hl0 : l = [] := List.eq_nil_of_length_eq_zero h0
    have hn := H.len
    subst hl0
    simp at hn
    subst hn
    refine (sink_zero H).mono ?_
    rintro e w' ⟨rfl, rfl⟩
    exact ⟨rfl, by rw [down_end lt [] 0 (by simp)]; exact H, Fr.refl _ _ _⟩
  · exact sink_some hF H hl h0

theorem pop_nil (w : World) : Calls Try.prog 22 #[.pointer none] w fun e w' => e = .returned (.tuple #[vt ⟨0, 0⟩, .bool false]) ∧ Below w.heap.size w w' := by
  go_enter Try.func22, Try.ntmps22
  go_wp2_with fail
  refine (peek_nil _).mono ?_
  rintro e w1 ⟨rfl, hb1⟩
  have hz : w.heap.size < w1.heap.size := by have := hb1.size; simp at this; omega
  have hbk : w1.heap[w.heap.size]? = some (.cells #[.int .i64 0, .int .i64 0] 37 (0, 0)) := (hb1.block _ (by simp)).trans (heap_alloc_new _ _)
  have r0 := blk_cell hbk 0
  have r1 := blk_cell hbk 1
  have s0 := blk_frozen hbk 0
  have s1 := blk_frozen hbk 1
  simp at r0 r1
  have hz2 : ¬ w1.heap.size = w.heap.size := by omega
  have hz3 : ¬ w.heap.size = w1.heap.size := by omega
  go_wp2
  exact bodyPost_ret (v := .tuple #[.agg #[.int .i64 0, .int .i64 0], .bool false]) (by simp [results, Try.results22, go_sem, *]) rfl ⟨rfl, (((((Below.refl _ _).alloc (Nat.le_refl _) _).trans (hb1.mono (by simp))).setCell (Nat.le_refl _) _).setCell (Nat.le_refl _) _).alloc (by simp; omega) _⟩
theorem pop_no {f : Nat} {B : Nat} {w : World} {hb : Nat} {v : Value} {nx : Int} (H : Heap B w hb f v [] nx) :
    Calls Try.prog 22 #[.pointer (some ⟨hb, 0, none⟩)] w fun e w' => e = .returned (.tuple #[vt ⟨0, 0⟩, .bool false]) ∧ Below w.heap.size w w' := by
  go_enter Try.func22, Try.ntmps22
  go_wp2_with fail
  refine (peek_no (H.below ((Below.refl _ _).alloc (Nat.le_refl _) _))).mono ?_
  rintro e w1 ⟨rfl, hb1⟩
  have hz : w.heap.size < w1.heap.size := by have := hb1.size; simp at this; omega
  have hbk : w1.heap[w.heap.size]? = some (.cells #[.int .i64 0, .int .i64 0] 37 (0, 0)) := (hb1.block _ (by simp)).trans (heap_alloc_new _ _)
  have r0 := blk_cell hbk 0
  have r1 := blk_cell hbk 1
  have s0 := blk_frozen hbk 0
  have s1 := blk_frozen hbk 1
  simp at r0 r1
  have hz2 : ¬ w1.heap.size = w.heap.size := by omega
  have hz3 : ¬ w.heap.size = w1.heap.size := by omega
  go_wp2
  exact bodyPost_ret (v := .tuple #[.agg #[.int .i64 0, .int .i64 0], .bool false]) (by simp [results, Try.results22, go_sem, *]) rfl ⟨rfl, (((((Below.refl _ _).alloc (Nat.le_refl _) _).trans (hb1.mono (by simp))).setCell (Nat.le_refl _) _).setCell (Nat.le_refl _) _).alloc (by simp; omega) _⟩

set_option maxRecDepth 100000 in
set_option maxHeartbeats 1000000 in
theorem pop_yes {f : Nat} {lt : K → K → Bool} (hF : First f lt) {B : Nat} {w : World} {hb : Nat} {v : Value} {l : List (Th K)} {nx : Int} (H : Heap B w hb f v l nx) (h0 : 0 < l.length) (hl : l.length < 140737488355328) :
    Calls Try.prog 22 #[.pointer (some ⟨hb, 0, none⟩)] w fun e w' => e = .returned (.tuple #[vt l[0].v, .bool true]) ∧ ∃ v', Heap B w' hb f v' (rest lt l) nx ∧ Fr w w' hb v.ownBlock ∧ v'.ownBlock = v.ownBlock := by
  obtain ⟨m, hm⟩ : ∃ m, l.length = m + 1 := ⟨l.length - 1, by omega⟩
  have hml : m < l.length := by omega
  have HRE := Lib.hid (rest_eq lt l m hml hm)
  obtain ⟨g, c, rfl, hBg, hg, hne, hcap⟩ := H.form h0
  rw [hm] at H hcap ⊢
  have hmb : m < 140737488355328 := by omega
  have HM := Lib.hid hm
  clear hm hl
  go_enter Try.func22, Try.ntmps22
  go_wp2_with fail
  refine (peek_yes (H.below ((Below.refl _ _).alloc (Nat.le_refl _) _)) h0).mono ?_
  rintro e w0 ⟨rfl, hb1⟩
  have hz : w.heap.size < w0.heap.size := by have := hb1.size; simp at this; omega
  have hbk : w0.heap[w.heap.size]? = some (.cells #[.int .i64 0, .int .i64 0] 37 (0, 0)) := (hb1.block _ (by simp)).trans (heap_alloc_new _ _)
  have hb2 : Below w.heap.size w w0 := ((Below.refl _ _).alloc (Nat.le_refl _) _).trans (hb1.mono (by simp))
  have hhb := blk_lt H.blk
  have H0 := H.below hb2
  clear H hb1
  have e1 := blk_cell H0.blk 1
  have hhb0 : hb < w0.heap.size := Nat.lt_of_lt_of_le hhb hb2.size
  simp at e1
  go_upto_region 4 with fail
  go_cut [6] (fun s6 wx => s6 = .int .i64 m ∧ Heap B wx hb f (.slice (some ⟨g, 0, none⟩) (m + 1) c) l nx ∧ Fr w wx hb (some g) ∧ wx.heap[w.heap.size]? = some (.cells #[.int .i64 0, .int .i64 0] 37 (0, 0)) ∧ wx.heap[w0.heap.size]? = some (.cells #[.int .i64 l[0].v.key, .int .i64 l[0].v.name] 37 (0, 0)))
  case first =>
    go_wp2_with fail
    go_meet
    exact ⟨rfl, H0.below ((Below.refl _ _).alloc (Nat.le_refl _) _), (Fr.of_below hb2 _ _).alloc _, blk_alloc hbk _, heap_alloc_new _ _⟩
  case rest =>
  obtain ⟨rfl, H1, F1, hr, hq⟩ := hcut
  obtain ⟨w1, hw1⟩ : ∃ w1, w1 = wc := ⟨_, rfl⟩
  subst hw1
  have hg1 : g < w1.heap.size := Nat.lt_of_lt_of_le hg F1.size
  have hrg : ¬ w.heap.size = g := by omega
  have hrb : ¬ w.heap.size = hb := by omega
  have hqg : ¬ w0.heap.size = g := by omega
  have hqb : ¬ w0.heap.size = hb := by omega
  clear H0 e1 hbk
  obtain ⟨c0, c1, c2⟩ := H1.at_ 0 h0
  obtain ⟨d0, d1, d2⟩ := H1.at_ m hml
  simp only [Nat.zero_mul, Nat.zero_add] at c0 c1 c2
  have e1 := blk_cell H1.blk 1
  simp at e1
  have fr := H1.ownN.frozenAt
  have fm0 := fr (m * 3)
  have fm1 := fr (m * 3 + 1)
  have fm2 := fr (m * 3 + 2)
  have f00 := fr 0
  have f01 := fr 1
  have f02 := fr 2
  clear fr
  have hne2 : ¬ hb = g := fun e => hne e.symm
  have H1x := H1
  have F1x := F1
  go_upto_region 5 with fail
  go_cut [6] (fun s6 wx => s6 = .int .i64 m ∧ Heap B wx hb f (.slice (some ⟨g, 0, none⟩) (m + 1) c) (l.set 0 l[m]) nx ∧ Fr w wx hb (some g) ∧ wx.heap[w.heap.size]? = some (.cells #[.int .i64 0, .int .i64 0] 37 (0, 0)) ∧ wx.heap[w0.heap.size]? = some (.cells #[.int .i64 l[0].v.key, .int .i64 l[0].v.name] 37 (0, 0)))
  case first =>
    go_region
    go_wp2_with fail
    go_meet
    exact ⟨rfl, (H1x.putT 0 l[m]).drew, (fr_putT F1x (.inl rfl) 0 l[m]).drew, ((fr_putT (Fr.refl w1 hb (some g)) (.inl rfl) 0 l[m]).drew).blk hr hrb (by simpa using hrg), ((fr_putT (Fr.refl w1 hb (some g)) (.inl rfl) 0 l[m]).drew).blk hq hqb (by simpa using hqg)⟩
  case rest =>
    obtain ⟨rfl, H2, F2, hr2, hq2⟩ := hcut
    have hml2 : m < (l.set 0 l[m]).length := by simpa using hml
    obtain ⟨d0, d1, d2⟩ := H2.at_ m hml2
    have e1 := blk_cell H2.blk 1
    have fe1 := blk_frozen H2.blk 1
    simp at e1
    have fr := H2.ownN.frozenAt
    have fm0 := fr (m * 3)
    have fm1 := fr (m * 3 + 1)
    have fm2 := fr (m * 3 + 2)
    have f00 := fr 0
    have f01 := fr 1
    have f02 := fr 2
    clear fr
    have H3 := (H2.putT m ⟨⟨0, 0⟩, 0⟩).cut (m := m) (by omega)
    have F3 := (fr_putT F2 (.inl rfl) m ⟨⟨0, 0⟩, 0⟩).setCell (p := ⟨hb, 1, none⟩) (.inl rfl) (.slice (some ⟨g, 0, none⟩) m c)
    go_wp2_with fail
    refine (sink_c hF H3 (by simp; omega)).mono ?_
    rintro e w4 ⟨rfl, H4, F4⟩
    have F5 := F3.trans F4 (.inl rfl)
    have F4' := F4
    clear H3 F3 F4 H2 F2
    have F35 := (((fr_putT (Fr.refl _ hb (some g)) (.inl rfl) m ⟨⟨0, 0⟩, 0⟩).setCell (p := ⟨hb, 1, none⟩) (.inl rfl) (.slice (some ⟨g, 0, none⟩) m c)).trans F4' (.inl rfl))
    have hr3 := F35.blk hr2 hrb (by simpa using hrg)
    have hq3 := F35.blk hq2 hqb (by simpa using hqg)
    clear F35 F4' hr2 hq2
    have r0 := blk_cell hr3 0
    have r1 := blk_cell hr3 1
    have s0 := blk_frozen hr3 0
    have s1 := blk_frozen hr3 1
    have q0 := blk_cell hq3 0
    have q1 := blk_cell hq3 1
    simp at r0 r1 q0 q1
    have hz2 : ¬ w0.heap.size = w.heap.size := by omega
    have hz3 : ¬ w.heap.size = w0.heap.size := by omega
    go_wp2
    exact bodyPost_ret (v := .tuple #[.agg #[.int .i64 l[0].v.key, .int .i64 l[0].v.name], .bool true]) (by simp [results, Try.results22, go_sem, *]) rfl ⟨rfl, .slice (some ⟨g, 0, none⟩) m c, by rw [HRE.out]; exact (H4.setFar hrb hrg _ _).setFar hrb hrg _ _, (F5.setCell (.inr (.inr (Nat.le_refl _))) _).setCell (.inr (.inr (Nat.le_refl _))) _, rfl⟩

end HT
end Go.Proofs.Ytcppiidfaaafeaa
