/- slices.Clone at the heap's things, and Copy: the contracts. -/
import Derived.Test.YtcppiidfaaafeaaHTPush
import Derived.Deep.RegionHeld3
import Derived.Deep.DeepCutAuto
set_option linter.unusedVariables false
set_option linter.unusedSimpArgs false
namespace Go.Proofs.Ytcppiidfaaafeaa
open Go.RowKit
namespace HT
open Pl
theorem flat_one (l : List (Th K)) : ∀ u ∈ flat l, u.oneCell' = true := by
  intro u hu
  simp [flat, ct] at hu
  obtain ⟨x, _, h⟩ := hu
  rcases h with rfl | rfl | rfl <;> rfl
theorem own_weaken {w : World} {base base' e size n : Nat} {v : Value} {xs : List Value} (h : w.ownsRow base e size v n xs) (hb : base' ≤ base) : w.ownsRow base' e size v n xs := by
  refine ⟨h.1, ?_⟩
  rcases h.2 with h | ⟨g, cap, cur, hv, hg, r⟩
  · exact .inl h
  · exact .inr ⟨g, cap, cur, hv, by omega, r⟩
set_option maxHeartbeats 400000 in
theorem clone_nil (w : World) : Calls Try.prog 33 #[.slice none 0 0] w fun e w' => e = .returned (.slice none 0 0) ∧ w = w' := by
  have hq := fun (W : World) (a : Option Addr) (n c : Nat) => Lib.run_eql_slice_nil (P := Try.prog) W 63 69 a n c 0 0 Try.underlying63
  go_enter Try.func33, Try.ntmps33
  go_wp2
  go_ret
  exact ⟨rfl, rfl⟩
set_option maxHeartbeats 800000 in
theorem clone_c {B : Nat} {w : World} {v : Value} {n : Nat} {xs : List Value} (ho : w.ownsRow B 69 3 v n xs) (h1 : ∀ u ∈ xs, u.oneCell' = true) (hn : n * 24 ≤ 140737488355328) :
    Calls Try.prog 33 #[v] w fun e w' => ∃ a c, e = .returned (.slice a n c) ∧ w'.ownsRow w.heap.size 69 3 (.slice a n c) n xs ∧ Below w.heap.size w w' := by
  rcases ho.2 with ⟨rfl, h0⟩ | ⟨g, cap, cur, rfl, hg, hh, hc, _⟩
  · subst h0
    have hx : xs = [] := List.eq_nil_of_length_eq_zero (by have := ho.1; omega)
    subst hx
    refine (clone_nil w).mono ?_
    rintro e w' ⟨rfl, rfl⟩
    exact ⟨none, 0, rfl, World.ownsRow_nil _ _ _ _, Below.refl _ _⟩
  · obtain ⟨i0, hi0, hz0, hz1, hz2⟩ := info_parts info
    have hq := fun (W : World) (a : Option Addr) (n c : Nat) => Lib.run_eql_slice_nil (P := Try.prog) W 63 69 a n c 0 0 Try.underlying63
    have hl : xs.length = n * 3 := ho.1
    have hcs : ∀ j u, xs[j]? = some u → (w.alloc (.cells #[] 69)).cell? ((⟨g, 0, none⟩ : Addr).add j) = some u := fun j u hu => by
      have := ho.cells (g := g) rfl j u hu
      rw [World.cell?_alloc_lt _ _ _ (by rw [show ((⟨g, 0, none⟩ : Addr).add j).block = g by unfold Addr.add; split <;> rfl]; exact blk_lt hh)]
      exact this
    have HL := Lib.hid hl
    have HC := Lib.hid hcs
    have hb : n ≤ maxLen := by unfold maxLen; omega
    clear hl hcs ho
    go_enter Try.func33, Try.ntmps33
    go_wp2_with (at_builtin; refine wpList_append_own _ rfl (.tmp 5) (.tmp 6) _ rfl w.heap.size 69 i0 _ 3 24 Try.underlying63 hi0 hz0 hz1 hz2 rfl (by omega) (.slice (some ⟨w.heap.size, 0, none⟩) 0 0) 0 [] rfl (World.ownsRow_made w #[] 0 (Nat.le_refl _) (by decide) (by rfl)) ⟨g, 0, none⟩ n cap xs rfl HL.out HC.out h1 (by omega) (by omega) (by simp) ?_; intro v' w1 hown1 hgrow1 _)
    go_ret
    obtain ⟨a', c', rfl⟩ : ∃ a c, v' = .slice a n c := by
      rcases hown1.2 with ⟨h1, h2⟩ | ⟨g, cap, _, h1, _⟩
      · exact ⟨none, 0, by rw [h1]; congr 1; omega⟩
      · exact ⟨_, cap, by rw [h1]; congr 1; omega⟩
    refine ⟨a', c', rfl, by simpa using hown1, ((Below.refl _ _).alloc (Nat.le_refl _) _).grown hgrow1 (by simp) (fun k hk => by simp [Value.ownBlock] at hk; omega)⟩
set_option maxHeartbeats 400000 in
theorem copy_c {B : Nat} {w : World} {hb f : Nat} {v : Value} {l : List (Th K)} {nx : Int} (H : Heap B w hb f v l nx) (hn : l.length * 24 ≤ 140737488355328) :
    Calls Try.prog 8 #[.pointer (some ⟨hb, 0, none⟩)] w fun e w' => ∃ nb v', e = .returned (.pointer (some ⟨nb, 0, none⟩)) ∧ Heap w.heap.size w' nb f v' l nx ∧ Below w.heap.size w w' := by
  obtain ⟨a, c, rfl⟩ := H.shape
  have h0 := blk_cell H.blk 0
  have h1 := blk_cell H.blk 1
  have h2 := blk_cell H.blk 2
  have hbs := blk_lt H.blk
  simp at h0 h1 h2
  have hown := H.own
  go_enter Try.func8, Try.ntmps8
  go_upto_region 3 with fail
  go_cut [2] (fun s2 wx => ∃ nb v', s2 = .pointer (some ⟨nb, 0, none⟩) ∧ Heap w.heap.size wx nb f v' l nx ∧ Below w.heap.size w wx)
  case first =>
    go_region_held3 (fun w' => w'.cell? ⟨hb, 0, none⟩ = some (.func (.func f) #[] #[]) ∧ w'.cell? ⟨hb, 1, none⟩ = some (.slice a l.length c) ∧ w'.cell? ⟨hb, 2, none⟩ = some (.int .u64 nx))
      (first | go_keep | exact ⟨(hb1.cell (p := ⟨hb, 0, none⟩) hbs).trans h0, (hb1.cell (p := ⟨hb, 1, none⟩) hbs).trans h1, (hb1.cell (p := ⟨hb, 2, none⟩) hbs).trans h2⟩)
      (first | (go_at_call 33; refine (clone_c hown.drew (flat_one l) hn).mono ?_; rintro e w1 ⟨a1, cc, rfl, hown1, hb1⟩))
    all_goals
      go_wp2_with fail
      go_meet
      exact ⟨w1.heap.size, .slice a1 l.length cc, rfl, ⟨hb1.size, heap_alloc_new _ _, hown1.alloc _⟩, (Below.trans (b := w.drew) (Below.refl _ _).drew hb1).alloc hb1.size _⟩
  case rest =>
    obtain ⟨nb, v', rfl, H', b'⟩ := hcut
    go_wp2
    go_ret
    exact ⟨nb, v', rfl, H', b'⟩
end HT
end Go.Proofs.Ytcppiidfaaafeaa
