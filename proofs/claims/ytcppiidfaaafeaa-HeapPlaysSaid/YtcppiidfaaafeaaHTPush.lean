/- Push: the contract. -/
import Derived.Test.YtcppiidfaaafeaaHTAhead
import Derived.Test.YtcppiidfaaafeaaPlain2
import Derived.Deep.DeepCutAuto
set_option linter.unusedVariables false
set_option linter.unusedSimpArgs false
namespace Go.Proofs.Ytcppiidfaaafeaa
open Go.RowKit
namespace HT
open Pl
theorem info : (Try.prog.info? 69).map (fun i => (i.zero, i.size, i.bytes)) = some (some (.agg #[.int .i64 0, .int .i64 0, .int .u64 0]), 3, 24) := by kernel_rfl

theorem Heap.not_row {B : Nat} {w : World} {hb f : Nat} {v : Value} {l : List (Th K)} {nx : Int} (H : Heap B w hb f v l nx) : v.ownBlock ≠ some hb := by
  intro e
  rcases H.own.2 with ⟨h, _⟩ | ⟨g, cap, cur, h, _, hh, _⟩
  · rw [h] at e; simp [Value.ownBlock] at e
  · rw [h] at e; simp [Value.ownBlock] at e; exact blk_ne hh H.blk (by decide) e
theorem Heap.pushed {B : Nat} {w W w1 : World} {hb f gg cap : Nat} {v : Value} {l : List (Th K)} {nx : Int} (H : Heap B w hb f v l nx) (x : K) (hW : Below w.heap.size w W)
    (hown : w1.ownsRow B 69 3 (.slice (some ⟨gg, 0, none⟩) (l.length + 1) cap) (l.length + 1) (flat l ++ ct ⟨x, nx⟩)) (hgrow : W.grownBy w1 v.ownBlock) :
    Heap B (w1.setCell ⟨hb, 1, none⟩ (.slice (some ⟨gg, 0, none⟩) (l.length + 1) cap)) hb f (.slice (some ⟨gg, 0, none⟩) (l.length + 1) cap) (l ++ [⟨x, nx⟩]) nx ∧
      Fr w (w1.setCell ⟨hb, 1, none⟩ (.slice (some ⟨gg, 0, none⟩) (l.length + 1) cap)) hb v.ownBlock := by
  have hb1 : w1.heap[hb]? = _ := (hgrow.block hb (Nat.lt_of_lt_of_le (blk_lt H.blk) hW.size) (Ne.symm H.not_row)).trans (blk_below H.blk hW)
  have hF1 : Fr w w1 hb v.ownBlock := ⟨hgrow.os.trans hW.os, hgrow.tape.trans hW.tape, hgrow.output.trans hW.output, Nat.le_trans hW.size hgrow.size, fun k hk _ hr => (hgrow.block k (Nat.lt_of_lt_of_le hk hW.size) hr).trans (hW.block k hk)⟩
  refine ⟨⟨H.base, ?_, ?_⟩, (hF1.setCell (.inl rfl) _)⟩
  · exact (blk_set hb1 1 _)
  · have e : flat (l ++ [⟨x, nx⟩]) = flat l ++ ct ⟨x, nx⟩ := by rw [flat_append]; simp [flat]
    rw [e, List.length_append]
    have hne : gg ≠ hb := by
      rcases hown.2 with ⟨h, _⟩ | ⟨g, _, _, h, _, hh, _⟩
      · cases h
      · injection h with h1; injection h1 with h1; injection h1 with h1; subst h1; exact blk_ne hh hb1 (by decide)
    have F := ((Fr.refl w1 hb none).setCell (p := ⟨hb, 1, none⟩) (.inl rfl) (.slice (some ⟨gg, 0, none⟩) (l.length + 1) cap))
    exact F.own hown (by simp [Value.ownBlock, hne]) (.inr (by simp [Value.ownBlock]))
theorem Heap.ownN {B : Nat} {w : World} {hb f g n c : Nat} {l : List (Th K)} {nx : Int} (h : Heap B w hb f (.slice (some ⟨g, 0, none⟩) n c) l nx) : w.ownsRow B 69 3 (.slice (some ⟨g, 0, none⟩) n c) n (flat l) := by
  have := h.len; subst this; exact h.own
/-- A thing stored at place i of the row. -/
def putT (w : World) (g i : Nat) (x : Th K) : World := (((w.setCell ⟨g, i * 3, none⟩ (.int .i64 x.v.key)).setCell ⟨g, i * 3 + 1, none⟩ (.int .i64 x.v.name)).setCell ⟨g, i * 3 + 2, none⟩ (.int .u64 x.no))
theorem fr_putT {w0 w : World} {hb g : Nat} {row : Option Nat} (h : Fr w0 w hb row) (hg : row = some g ∨ w0.heap.size ≤ g) (i : Nat) (x : Th K) : Fr w0 (putT w g i x) hb row := by
  have hp : ∀ j, (⟨g, j, none⟩ : Addr).block = hb ∨ some (⟨g, j, none⟩ : Addr).block = row ∨ w0.heap.size ≤ (⟨g, j, none⟩ : Addr).block := fun j => by
    rcases hg with h | h
    · exact .inr (.inl h.symm)
    · exact .inr (.inr h)
  exact (((h.setCell (hp _) _).setCell (hp _) _).setCell (hp _) _)
theorem Heap.putT {B : Nat} {w : World} {hb f g n c : Nat} {l : List (Th K)} {nx : Int} (h : Heap B w hb f (.slice (some ⟨g, 0, none⟩) n c) l nx) (i : Nat) (x : Th K) : Heap B (putT w g i x) hb f (.slice (some ⟨g, 0, none⟩) n c) (l.set i x) nx := by
  have hne : hb ≠ g := by
    intro e; subst e; exact h.not_row (by simp [Value.ownBlock])
  refine ⟨h.base, blk_far (blk_far (blk_far (h.blk) (by exact hne) _) (by exact hne) _) (by exact hne) _, ?_⟩
  have := own_set h.ownN i x
  rw [List.length_set, ← h.len]
  exact this
theorem Heap.drew {B : Nat} {w : World} {hb f : Nat} {v : Value} {l : List (Th K)} {nx : Int} (h : Heap B w hb f v l nx) : Heap B w.drew hb f v l nx := ⟨h.base, h.blk, h.own⟩
/-- The count raised. -/
theorem Heap.counted {B : Nat} {w : World} {hb f : Nat} {v : Value} {l : List (Th K)} {nx : Int} (H : Heap B w hb f v l nx) (u : Int) : Heap B (w.setCell ⟨hb, 2, none⟩ (.int .u64 u)) hb f v l u := by
  refine ⟨H.base, blk_set H.blk 2 _, ?_⟩
  have F := ((Fr.refl w hb none).setCell (p := ⟨hb, 2, none⟩) (.inl rfl) (.int .u64 u))
  exact F.own H.own H.not_row (by cases h : v.ownBlock <;> simp)
/-- What stands behind the append. -/
def Mid (B : Nat) (w w' : World) (hb f : Nat) (row : Option Nat) (l : List (Th K)) (nx : Int) : Prop := ∃ gg cap, B ≤ gg ∧ Heap B w' hb f (.slice (some ⟨gg, 0, none⟩) l.length cap) l nx ∧ Fr w w' hb row ∧ (row = some gg ∨ w.heap.size ≤ gg)

set_option maxRecDepth 100000 in
set_option maxHeartbeats 1000000 in
theorem push_c {f : Nat} {lt : K → K → Bool} (hF : First f lt) {B : Nat} {w : World} {hb : Nat} {v : Value} {l : List (Th K)} {nx : Int} (H : Heap B w hb f v l nx) (x : K)
    (hB : B ≤ w.heap.size) (hn0 : 0 ≤ nx) (hn1 : nx < 9223372036854775807) (hl : (l.length + 1) * 24 ≤ 140737488355328) :
    Calls Try.prog 21 #[.pointer (some ⟨hb, 0, none⟩), vt x] w fun e w' => e = .returned (.tuple #[]) ∧
      ∃ v', Heap B w' hb f v' (push lt l x nx) (nx + 1) ∧ Fr w w' hb v.ownBlock ∧ (v'.ownBlock = v.ownBlock ∨ ∃ b, v'.ownBlock = some b ∧ w.heap.size ≤ b) := by
  obtain ⟨i0, hi0, hz0, hz1, hz2⟩ := info_parts info
  obtain ⟨a, c, rfl⟩ := H.shape
  obtain ⟨xk, xn⟩ := x
  have hbs := blk_lt H.blk
  have hbs1 : hb < w.heap.size + 1 := by omega
  have h0 := blk_cell H.blk 0
  have h1 := blk_cell H.blk 1
  have h2 := blk_cell H.blk 2
  have f1 := blk_frozen H.blk 1
  simp at h0 h1 h2
  have hown := H.own
  have hag := H.not_row
  have hca : ∀ o o', ((w.alloc o).alloc o').cell? ⟨hb, 1, none⟩ = some (.slice a l.length c) := fun o o' => by rw [World.cell?_alloc_past _ _ _ (by simp; omega), World.cell?_alloc_past _ _ _ hbs]; exact h1
  have hfb : ∀ o o', ((w.alloc o).alloc o').frozen? ⟨hb, 1, none⟩ = false := fun o o' => by rw [World.frozen?_alloc_past _ _ _ (by simp; omega), World.frozen?_alloc_past _ _ _ hbs]; exact f1
  have hnew : ∀ o o', ((w.alloc o).alloc o').heap[w.heap.size + 1]? = some o' := fun o o' => by have := heap_alloc_new (w.alloc o) o'; simpa using this
  go_enter Try.func21, Try.ntmps21
  go_upto_region 2 with fail
  go_cut [4] (fun s4 wx => Mid B w wx hb f (Value.slice a l.length c).ownBlock (l ++ [⟨⟨xk, xn⟩, nx⟩]) nx)
  case first =>
    go_region_law
      ((refine step_append_lies _ (by rfl) _ _ _ (by rfl) B 69 i0 _ 3 24 Try.underlying63 hi0 hz0 hz1 hz2 rfl (by omega) _ _ _ (by rfl) ((((hown.alloc _).drew).alloc _)) ⟨w.heap.size + 1, 0, none⟩ 1 1 [.int .i64 xk, .int .i64 xn, .int .u64 nx] (by rfl) (by rfl) (World.news_of_block (cs := #[.int .i64 xk, .int .i64 xn, .int .u64 nx]) (t := 69) (fr := (0, 0)) (hnew _ _)) (by simp [Value.oneCell']) (by omega) (by unfold maxLen; omega) (by omega) (by simp; omega) (w.heap.size + 2) (by simp) ?_; intro gg cap w1 hown1 hgrow hat hlt; have e1 := (hgrow.cell_far ⟨hb, 1, none⟩ (by simp; omega) (Ne.symm hag)).trans (hca _ _); have e2 := (hgrow.frozen_far ⟨hb, 1, none⟩ (by simp; omega) (Ne.symm hag)).trans (hfb _ _)))
    all_goals
      go_wp2_with fail
      have HP := H.pushed ⟨xk, xn⟩ (W := ((w.alloc (.cells #[.int .i64 xk, .int .i64 xn] 37)).alloc (.cells #[.int .i64 xk, .int .i64 xn, .int .u64 nx] 69)).drew) (((Below.refl _ _).alloc (Nat.le_refl _) _).alloc (by simp) _).drew hown1 hgrow
      obtain ⟨_, _, hq, hBg, _⟩ := hown1.form (by omega)
      injection hq with hq
      injection hq with hq
      injection hq with hq
      subst hq
      clear hown1 hgrow e1 e2
      go_meet
      exact ⟨gg, cap, hBg, by rw [List.length_append]; exact HP.1, HP.2, by rcases hat with h | h; exact .inl h; right; omega⟩
  case rest =>
    obtain ⟨gg, cap, hBg, HM, FM, hrow⟩ := hcut
    clear hca hfb hnew hag h0 h1 h2 f1 hi0 hz0 hz1 hz2
    have e1 := blk_cell HM.blk 1
    have e2 := blk_cell HM.blk 2
    have e3 := blk_frozen HM.blk 2
    simp at e1 e2
    go_wp2_with fail
    have HP1 := HM.counted (nx + 1)
    have HP2 : Fr w (wc.setCell ⟨hb, 2, none⟩ (.int .u64 (nx + 1))) hb (Value.slice a l.length c).ownBlock := FM.setCell (.inl rfl) _
    clear HM FM e1 e2 e3
    go_loopw [4, 5] (fun i u wr => ∃ k : Nat, ∃ lr, i = .int .i64 k ∧ k < lr.length ∧ lr.length = l.length + 1 ∧ up lt lr k = push lt l ⟨xk, xn⟩ nx ∧ Heap B wr hb f (.slice (some ⟨gg, 0, none⟩) (l.length + 1) cap) lr (nx + 1) ∧ Fr w wr hb (Value.slice a l.length c).ownBlock) (fun i _ _ => (intOf i).toNat)
    case atStart => exact ⟨l.length, _, rfl, by simp, by simp, rfl, by simpa using HP1, HP2⟩
    case round =>
      obtain ⟨k, lr, rfl, hk, hlr, hup, HR, FR⟩ := hrel
      clear HP1 HP2
      by_cases h0 : 0 < k
      · obtain ⟨j, hj⟩ : ∃ j, j = (k - 1) / 2 := ⟨_, rfl⟩
        have hjk : j < k := by omega
        have hkb : k < 140737488355328 := by omega
        have hjl : j < lr.length := by omega
        have ej : ((k : Int) - 1) / 2 = (j : Int) := by omega
        have Hst := Lib.hid (up_stop' lt lr k j hj hk hjl)
        have Hsp := Lib.hid (up_step' lt lr k j hj h0 hk hjl)
        have EJ := Lib.hid ej
        have HUP := Lib.hid hup
        have HLR := Lib.hid hlr
        clear hj ej hup hlr
        go_wp2_with fail
        rw [EJ.out]
        refine (ahead_c hF HR k j hk hjl).mono ?_
        rintro e w2 ⟨rfl, hb2⟩
        have HR2 := HR.below hb2
        have FR2 := FR.then_below hb2
        clear HR FR hb2
        cases hA : aheadT lt lr[k] lr[j] with
        | false =>
          have hup2 := Hst.out hA
          have HU := Lib.hid (HUP.out.symm.trans hup2)
          clear hup2 hA
          go_wp2
          refine bodyPost_ret (results_none rfl _ _ _) rfl ?_
          exact ⟨rfl, _, by rw [HU.out]; exact HR2, FR2, by rcases hrow with h | h; exact .inl h.symm; exact .inr ⟨gg, rfl, h⟩⟩
        | true =>
          have hup2 := Hsp.out hA
          have HU := Lib.hid (hup2.symm.trans HUP.out)
          clear hup2 hA
          have e1 := blk_cell HR2.blk 1
          simp at e1
          have hk1 : k < l.length + 1 := by have := HLR.out; omega
          have hj1 : j < l.length + 1 := by omega
          obtain ⟨ck0, ck1, ck2⟩ := HR2.at_ k hk
          obtain ⟨cj0, cj1, cj2⟩ := HR2.at_ j hjl
          have fr := HR2.ownN.frozenAt
          have fk0 := fr (k * 3)
          have fk1 := fr (k * 3 + 1)
          have fk2 := fr (k * 3 + 2)
          have fj0 := fr (j * 3)
          have fj1 := fr (j * 3 + 1)
          have fj2 := fr (j * 3 + 2)
          have n1 : ¬ k * 3 = j * 3 := by omega
          have n2 : ¬ j * 3 = k * 3 := by omega
          clear fr
          go_wp2_with fail
          go_region
          go_wp2_with fail
          have HR3 := (HR2.putT k lr[j]).putT j lr[k]
          have FR3 := fr_putT (fr_putT FR2 hrow k lr[j]) hrow j lr[k]
          go_roundw
          case rel => exact ⟨j, _, rfl, by simpa using hjl, by simpa using HLR.out, HU.out, HR3.drew, FR3.drew⟩
          case measure => simp [intOf]; omega
      · have hk0 : k = 0 := by omega
        subst hk0
        have HU := Lib.hid (hup.symm.trans (up_zero lt lr))
        clear hup
        go_wp2
        go_end0
        exact ⟨rfl, _, by rw [HU.out]; exact HR, FR, by rcases hrow with h | h; exact .inl h.symm; exact .inr ⟨gg, rfl, h⟩⟩
theorem push_nil (x : K) (w : World) : Calls Try.prog 21 #[.pointer none, vt x] w fun e w' => e = .returned (.tuple #[]) ∧ Below w.heap.size w w' := by
  obtain ⟨xk, xn⟩ := x
  go_enter Try.func21, Try.ntmps21
  go_wp2
  refine bodyPost_ret (results_none rfl _ _ _) rfl ?_
  exact ⟨rfl, by first | exact Below.refl _ _ | exact (Below.refl _ _).alloc (Nat.le_refl _) _⟩

end HT
end Go.Proofs.Ytcppiidfaaafeaa
