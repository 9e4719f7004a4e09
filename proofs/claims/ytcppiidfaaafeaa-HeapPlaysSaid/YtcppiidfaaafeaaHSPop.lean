/- Pop: the contract. -/
import Derived.Test.YtcppiidfaaafeaaHSSink
import Derived.Test.YtcppiidfaaafeaaHSSmall
set_option linter.unusedVariables false
set_option linter.unusedSimpArgs false
namespace Go.Proofs.Ytcppiidfaaafeaa
open Go.RowKit
namespace HS
open Pl

theorem own_take {B : Nat} {w : World} {g n m c : Nat} {l : List (Th ByteArray)} (h : w.ownsRow B 74 2 (.slice (some ⟨g, 0, none⟩) n c) n (flat l)) (hm : m ≤ n) :
    w.ownsRow B 74 2 (.slice (some ⟨g, 0, none⟩) m c) m (flat (l.take m)) := by
  have hl := h.1
  rw [flat_length] at hl
  refine ⟨by rw [flat_length, List.length_take]; congr 1; omega, ?_⟩
  rcases h.2 with ⟨h1, _⟩ | ⟨g', cap, cur, h1, hB, hh, hc, hcm, hcs, ht⟩
  · cases h1
  · injection h1 with h1 h2 h3
    injection h1 with h1
    injection h1 with h1
    subst h1; subst h3
    refine .inr ⟨g, c, cur, rfl, hB, hh, by omega, hcm, hcs, ?_⟩
    rw [flat_take, ← ht, List.take_take]
    congr 1
    exact (Nat.min_eq_left (Nat.mul_le_mul_right _ hm)).symm
/-- h.l = h.l[:m] -/
theorem Heap.cut {B : Nat} {w : World} {hb f g n m c : Nat} {l : List (Th ByteArray)} {nx : Int} (h : Heap B w hb f (.slice (some ⟨g, 0, none⟩) n c) l nx) (hm : m ≤ n) :
    Heap B (w.setCell ⟨hb, 1, none⟩ (.slice (some ⟨g, 0, none⟩) m c)) hb f (.slice (some ⟨g, 0, none⟩) m c) (l.take m) nx := by
  have hl := h.len
  have hne : g ≠ hb := fun e => h.not_row (by simp [Value.ownBlock, e])
  refine ⟨h.base, blk_set h.blk 1 _, ?_⟩
  have F := ((Fr.refl w hb none).setCell (p := ⟨hb, 1, none⟩) (.inl rfl) (.slice (some ⟨g, 0, none⟩) m c))
  have := F.own (own_take h.ownN hm) (by simp [Value.ownBlock, hne]) (.inr (by simp [Value.ownBlock]))
  rw [List.length_take, ← hl, Nat.min_eq_left hm]
  exact this
theorem rest_eq (lt : ByteArray → ByteArray → Bool) (l : List (Th ByteArray)) (m : Nat) (hm : m < l.length) (h : l.length = m + 1) : rest lt l = down lt (((l.set 0 l[m]).set m ⟨ByteArray.empty, 0⟩).take m) 0 := by
  have h' : l.length - 1 = m := by omega
  unfold rest
  have e : l.getLast? = some l[m] := by rw [List.getLast?_eq_getElem?, h', List.getElem?_eq_getElem hm]
  rw [e]
  simp only [h']
  rw [List.take_set_of_le (Nat.le_refl _)]
theorem Heap.setFar {B : Nat} {w : World} {hb f g n c r : Nat} {l : List (Th ByteArray)} {nx : Int} (h : Heap B w hb f (.slice (some ⟨g, 0, none⟩) n c) l nx) (h1 : ¬ r = hb) (h2 : ¬ r = g) (o : Nat) (u : Value) :
    Heap B (w.setCell ⟨r, o, none⟩ u) hb f (.slice (some ⟨g, 0, none⟩) n c) l nx := by
  have F := (Fr.refl w r none).setCell (p := ⟨r, o, none⟩) (.inl rfl) u
  exact ⟨h.base, F.blk h.blk (fun e => h1 e.symm) (by simp), F.own h.own (by simp [Value.ownBlock]; exact fun e => h2 e.symm) (.inr (by simp [Value.ownBlock]))⟩
theorem sink_c {f : Nat} {lt : ByteArray → ByteArray → Bool} (hF : First f lt) {B : Nat} {w : World} {hb g c : Nat} {l : List (Th ByteArray)} {nx : Int} {n : Nat} (H : Heap B w hb f (.slice (some ⟨g, 0, none⟩) n c) l nx) (hl : l.length < 140737488355328) :
    Calls Try.prog 40 #[.pointer (some ⟨hb, 0, none⟩)] w fun e w' => e = .returned (.tuple #[]) ∧ Heap B w' hb f (.slice (some ⟨g, 0, none⟩) n c) (down lt l 0) nx ∧ Fr w w' hb (some g) := by
  rcases Nat.eq_zero_or_pos l.length with h0 | h0
  · have hl0 : l = [] := List.eq_nil_of_length_eq_zero h0
    have hn := H.len
    subst hl0
    simp at hn
    subst hn
    refine (sink_zero H).mono ?_
    rintro e w' ⟨rfl, rfl⟩
    exact ⟨rfl, by rw [down_end lt [] 0 (by simp)]; exact H, Fr.refl _ _ _⟩
  · exact sink_some hF H hl h0

theorem pop_nil (w : World) : Calls Try.prog 15 #[.pointer none] w fun e w' => e = .returned (.tuple #[vt ByteArray.empty, .bool false]) ∧ Below w.heap.size w w' := by
  go_enter Try.func15, Try.ntmps15
  go_wp2_with fail
  refine (peek_nil _).mono ?_
  rintro e w1 ⟨rfl, hb1⟩
  go_wp2
  go_ret2
  exact ⟨rfl, hb1⟩
theorem pop_no {f : Nat} {B : Nat} {w : World} {hb : Nat} {v : Value} {nx : Int} (H : Heap B w hb f v [] nx) :
    Calls Try.prog 15 #[.pointer (some ⟨hb, 0, none⟩)] w fun e w' => e = .returned (.tuple #[vt ByteArray.empty, .bool false]) ∧ Below w.heap.size w w' := by
  go_enter Try.func15, Try.ntmps15
  go_wp2_with fail
  refine (peek_no H).mono ?_
  rintro e w1 ⟨rfl, hb1⟩
  go_wp2
  go_ret2
  exact ⟨rfl, hb1⟩

set_option maxRecDepth 100000 in
set_option maxHeartbeats 1000000 in
theorem pop_yes {f : Nat} {lt : ByteArray → ByteArray → Bool} (hF : First f lt) {B : Nat} {w : World} {hb : Nat} {v : Value} {l : List (Th ByteArray)} {nx : Int} (H : Heap B w hb f v l nx) (h0 : 0 < l.length) (hl : l.length < 140737488355328) :
    Calls Try.prog 15 #[.pointer (some ⟨hb, 0, none⟩)] w fun e w' => e = .returned (.tuple #[vt l[0].v, .bool true]) ∧ ∃ v', Heap B w' hb f v' (rest lt l) nx ∧ Fr w w' hb v.ownBlock ∧ v'.ownBlock = v.ownBlock := by
  obtain ⟨m, hm⟩ : ∃ m, l.length = m + 1 := ⟨l.length - 1, by omega⟩
  have hml : m < l.length := by omega
  have HRE := Lib.hid (rest_eq lt l m hml hm)
  obtain ⟨g, c, rfl, hBg, hg, hne, hcap⟩ := H.form h0
  rw [hm] at H hcap ⊢
  have hmb : m < 140737488355328 := by omega
  have HM := Lib.hid hm
  clear hm hl
  go_enter Try.func15, Try.ntmps15
  go_wp2_with fail
  refine (peek_yes H h0).mono ?_
  rintro e w1 ⟨rfl, hb1⟩
  have H1 := H.below hb1
  have F1 := Fr.of_below hb1 hb (some g)
  have hg1 : g < w1.heap.size := Nat.lt_of_lt_of_le hg hb1.size
  clear H hb1 hg
  obtain ⟨c0, c1⟩ := H1.at_ 0 h0
  obtain ⟨d0, d1⟩ := H1.at_ m hml
  simp only [Nat.zero_mul, Nat.zero_add] at c0 c1
  have e1 := blk_cell H1.blk 1
  simp at e1
  have fr := H1.ownN.frozenAt
  have fm0 := fr (m * 2)
  have fm1 := fr (m * 2 + 1)
  have f00 := fr 0
  have f01 := fr 1
  clear fr
  have hne2 : ¬ hb = g := fun e => hne e.symm
  have H1x := H1
  have F1x := F1
  go_upto_region 5 with fail
  go_cut [6] (fun s6 wx => s6 = .int .i64 m ∧ Heap B wx hb f (.slice (some ⟨g, 0, none⟩) (m + 1) c) (l.set 0 l[m]) nx ∧ Fr w wx hb (some g))
  case first =>
    go_region
    go_wp2_with fail
    go_meet
    exact ⟨rfl, (H1x.putT 0 l[m]).drew, (fr_putT F1x (.inl rfl) 0 l[m]).drew⟩
  case rest =>
    obtain ⟨rfl, H2, F2⟩ := hcut
    have hml2 : m < (l.set 0 l[m]).length := by simpa using hml
    obtain ⟨d0, d1⟩ := H2.at_ m hml2
    have e1 := blk_cell H2.blk 1
    have fe1 := blk_frozen H2.blk 1
    simp at e1
    have fr := H2.ownN.frozenAt
    have fm0 := fr (m * 2)
    have fm1 := fr (m * 2 + 1)
    have f00 := fr 0
    have f01 := fr 1
    clear fr
    have H3 := (H2.putT m ⟨ByteArray.empty, 0⟩).cut (m := m) (by omega)
    have F3 := (fr_putT F2 (.inl rfl) m ⟨ByteArray.empty, 0⟩).setCell (p := ⟨hb, 1, none⟩) (.inl rfl) (.slice (some ⟨g, 0, none⟩) m c)
    go_wp2_with fail
    refine (sink_c hF H3 (by simp; omega)).mono ?_
    rintro e w4 ⟨rfl, H4, F4⟩
    have F5 := F3.trans F4 (.inl rfl)
    clear H3 F3 F4 H2 F2
    go_wp2
    go_ret2
    exact ⟨rfl, .slice (some ⟨g, 0, none⟩) m c, by rw [HRE.out]; exact H4, F5, rfl⟩

end HS
end Go.Proofs.Ytcppiidfaaafeaa
