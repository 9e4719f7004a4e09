/- Words of memory: which blocks a call may change; blocks known whole. -/
import Derived.Test.YtfbejjobejdenaaRows
import Derived.WalkKit
import Derived.WalkSpells
import Derived.WalkLawsBesides
import Derived.Deep.QuietTactic
import Derived.BigQuiet
import Derived.StillTailTactics
import Derived.Laws.OwnMore
import Derived.Maps.AppendAt
import Derived.Deep.RegionLaw
import Derived.Deep.AppendLies
import Derived.Lib.Hide
set_option linter.unusedVariables false
set_option linter.unusedSimpArgs false
namespace Go.Proofs.Ytfbejjobejdenaa
open Go.RowKit

theorem region_still_tail {P : Program} {id : Nat} {Q : Exit → Act → World → Prop} {a : Act} {w : World} {l : List Oper} (n : Nat) (hm : P.follows .mixedOrders = true) (hB : Region.lexTailB .any l.toArray n = true)
    (h : wpStill P l.toArray w.drew (fun a' => wpList P l.toArray Q (l.drop n) a' w.drew) (l.take n) a) : (Code.region id l.toArray true).wp P Q a w := wp_region_still_tail n hm hB h

/-- Only block g, block 'row' and new blocks differ. -/
structure Fr (w w' : World) (g : Nat) (row : Option Nat) : Prop where
  os : w'.os = w.os
  tape : w'.tape = w.tape
  output : w'.output = w.output
  size : w.heap.size ≤ w'.heap.size
  block : ∀ k, k < w.heap.size → k ≠ g → some k ≠ row → w'.heap[k]? = w.heap[k]?

theorem Fr.refl (w : World) (g : Nat) (row : Option Nat) : Fr w w g row := ⟨rfl, rfl, rfl, Nat.le_refl _, fun _ _ _ _ => rfl⟩
theorem Fr.of_below {w w' : World} (h : Below w.heap.size w w') (g : Nat) (row : Option Nat) : Fr w w' g row := ⟨h.os, h.tape, h.output, h.size, fun k hk _ _ => h.block k hk⟩
theorem Fr.then_below {w w1 w2 : World} {g : Nat} {row : Option Nat} (h : Fr w w1 g row) (k : Below w1.heap.size w1 w2) : Fr w w2 g row :=
  ⟨k.os.trans h.os, k.tape.trans h.tape, k.output.trans h.output, Nat.le_trans h.size k.size, fun i hi hg hr => (k.block i (Nat.lt_of_lt_of_le hi h.size)).trans (h.block i hi hg hr)⟩
theorem Fr.trans {w w1 w2 : World} {g : Nat} {row row1 : Option Nat} (h : Fr w w1 g row) (k : Fr w1 w2 g row1) (hr : row1 = row ∨ ∃ b, row1 = some b ∧ w.heap.size ≤ b) : Fr w w2 g row :=
  ⟨k.os.trans h.os, k.tape.trans h.tape, k.output.trans h.output, Nat.le_trans h.size k.size, fun i hi hg hne => (k.block i (Nat.lt_of_lt_of_le hi h.size) hg (by
    rcases hr with rfl | ⟨b, rfl, hb⟩
    · exact hne
    · intro e; injection e with e; omega)).trans (h.block i hi hg hne)⟩
theorem Fr.drew {w w1 : World} {g : Nat} {row : Option Nat} (h : Fr w w1 g row) : Fr w w1.drew g row := ⟨h.os, h.tape, h.output, h.size, h.block⟩
theorem Fr.alloc {w w1 : World} {g : Nat} {row : Option Nat} (h : Fr w w1 g row) (o : Obj) : Fr w (w1.alloc o) g row :=
  h.then_below ((Below.refl _ _).alloc (Nat.le_refl _) o)
theorem Fr.setCell {w w1 : World} {g : Nat} {row : Option Nat} (h : Fr w w1 g row) {p : Addr} (hp : p.block = g ∨ some p.block = row ∨ w.heap.size ≤ p.block) (u : Value) : Fr w (w1.setCell p u) g row :=
  ⟨h.os, h.tape, h.output, by simpa [World.setCell] using h.size, fun i hi hg hr => (Below.heap_setCell w1 p u i (by
    rintro rfl
    rcases hp with hp | hp | hp
    · exact hg hp
    · exact hr hp
    · omega)).trans (h.block i hi hg hr)⟩
theorem Fr.below {w w' : World} {g B : Nat} {row : Option Nat} (h : Fr w w' g row) (hB : B ≤ w.heap.size) (hg : B ≤ g) (hr : ∀ k, row = some k → B ≤ k) : Below B w w' :=
  ⟨h.os, h.tape, h.output, h.size, fun k hk => h.block k (by omega) (by omega) (fun e => by have := hr k e.symm; omega)⟩
theorem Fr.blk {w w' : World} {g : Nat} {row : Option Nat} (h : Fr w w' g row) {b : Nat} {o : Obj} (hb : w.heap[b]? = some o) (hg : b ≠ g) (hr : some b ≠ row) : w'.heap[b]? = some o :=
  (h.block b (Array.getElem?_eq_some_iff.1 hb).1 hg hr).trans hb
theorem Fr.own {w w' : World} {g : Nat} {row : Option Nat} (h : Fr w w' g row) {base e size n : Nat} {v : Value} {xs : List Value} (ho : w.ownsRow base e size v n xs) (hg : v.ownBlock ≠ some g) (hr : v.ownBlock = none ∨ v.ownBlock ≠ row) : w'.ownsRow base e size v n xs := by
  refine ⟨ho.1, ?_⟩
  rcases ho.2 with hn | ⟨b, cap, cur, rfl, hb, hh, rest⟩
  · exact .inl hn
  · refine .inr ⟨b, cap, cur, rfl, hb, h.blk hh (fun e => hg (by simp [Value.ownBlock, e])) (fun e => ?_), rest⟩
    rcases hr with hr | hr
    · simp [Value.ownBlock] at hr
    · exact hr (by simpa [Value.ownBlock] using e)

theorem blk_lt {w : World} {g : Nat} {o : Obj} (h : w.heap[g]? = some o) : g < w.heap.size := (Array.getElem?_eq_some_iff.1 h).1
theorem blk_cell {w : World} {g : Nat} {t : TypeId} {cs : Array Value} (h : w.heap[g]? = some (.cells cs t (0, 0))) (i : Nat) : w.cell? ⟨g, i, none⟩ = cs[i]? := cell_of_row w g i cs t (0, 0) h
theorem blk_frozen {w : World} {g : Nat} {t : TypeId} {cs : Array Value} (h : w.heap[g]? = some (.cells cs t (0, 0))) (i : Nat) : w.frozen? ⟨g, i, none⟩ = false := by simp [World.frozen?, h]
theorem blk_ne {w : World} {g g' : Nat} {t t' : TypeId} {cs cs' : Array Value} (h : w.heap[g]? = some (.cells cs t (0, 0))) (h' : w.heap[g']? = some (.cells cs' t' (0, 0))) (hne : t ≠ t') : g ≠ g' := by
  rintro rfl
  rw [h] at h'
  injection h' with h'
  injection h' with _ ht
  exact hne ht
theorem blk_below {w w1 : World} {g : Nat} {o : Obj} (h : w.heap[g]? = some o) (hb : Below w.heap.size w w1) : w1.heap[g]? = some o := (hb.block g (blk_lt h)).trans h
theorem blk_set {w : World} {g : Nat} {t : TypeId} {cs : Array Value} (h : w.heap[g]? = some (.cells cs t (0, 0))) (i : Nat) (u : Value) : (w.setCell ⟨g, i, none⟩ u).heap[g]? = some (.cells (cs.setIfInBounds i u) t (0, 0)) := by
  simp [World.setCell, Array.getElem?_modify, h]
theorem blk_far {w : World} {g : Nat} {t : TypeId} {cs : Array Value} (h : w.heap[g]? = some (.cells cs t (0, 0))) {p : Addr} (hp : g ≠ p.block) (u : Value) : (w.setCell p u).heap[g]? = some (.cells cs t (0, 0)) := (Below.heap_setCell w p u g hp).trans h
theorem blk_alloc {w : World} {g : Nat} {o : Obj} (h : w.heap[g]? = some o) (o' : Obj) : (w.alloc o').heap[g]? = some o := (Below.heap_alloc w o' g (blk_lt h)).trans h
theorem below_drewN {B : Nat} {a w : World} (h : Below B a w) (n : Nat) : Below B a (w.drewN n) := ⟨h.os, h.tape, h.output, h.size, h.block⟩
theorem own_below {w w1 : World} {base e size n : Nat} {v : Value} {xs : List Value} (h : w.ownsRow base e size v n xs) (hb : Below w.heap.size w w1) : w1.ownsRow base e size v n xs :=
  h.kept (row := none) ⟨hb.os, hb.tape, hb.output, hb.size, fun k hk _ => hb.block k hk⟩ (by cases hv : v.ownBlock <;> simp)

end Go.Proofs.Ytfbejjobejdenaa
