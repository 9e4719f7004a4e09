/- The codes: an argument that is a list of instructions, opened: a row in memory. -/
import Derived.Test.YtfbejjobejdenaaCWalk
import Derived.Test.YtfbejjobejdenaaRows
import Derived.WalkKit
import Derived.ProofKit
import Derived.OpenShut
import Derived.Deep.Slices
import Derived.Deep.Fields
set_option linter.unusedVariables false
set_option linter.unusedSimpArgs false
namespace Go.Proofs.Ytfbejjobejdenaa
open Go.RowKit
theorem bulk_len {H : Type} (l : List (DataW H)) : l.length ≤ Rows.uptoBulkAll l := by
  induction l with
  | nil => simp [Rows.uptoBulkAll]
  | cons x r ih =>
    have : 1 ≤ Rows.uptoBulk x := by
      cases x with
      | lit l => cases l <;> simp [Rows.uptoBulk]
      | _ => simp [Rows.uptoBulk]
    simp only [Rows.uptoBulkAll, List.length_cons]; omega

theorem Try.laidOut : laidOutB Try.prog = true := by kernel_rfl
theorem Try.cells29 : Try.prog.cellsOf 29 = 2 := by kernel_rfl
namespace codeRows
open Go.ChangeShapes Go.WideShapes Go.ChangeAt Go.RowKit Go.Deep
section
variable {H : Type} {enc : TypeId × Value → H} {P : Program} {w : World} {base : Nat} {spare : Nat → Bool} {held : Bool}
theorem open_slice_fields {t e : TypeId} {fs : Array Field} {fuel : Nat} {cs : List Value} {x : DataW H × List MemPlace} (ht : P.underlying t = some (.slice e)) (he : P.underlying e = some (.struct fs))
    (hone : oneCellFields P fs = true) (hC : P.cellsOf e = fs.size) (h : DataW.trod enc P w base spare held fuel t cs = some x) :
    (cs = [.slice none 0 0] ∧ x = (.nil, [])) ∨
    ∃ (a : Addr) (len cap m : Nat) (D : Nat → DataW H) (Pl : Nat → List MemPlace), cs = [.slice (some a) len cap] ∧ base ≤ a.block ∧ len ≤ cap ∧ cap ≤ maxLen ∧ m = (if spare a.block then cap else len) ∧
      x = (.slice ((List.range len).map D) ((List.range (m - len)).map fun j => D (len + j)), MemPlace.row a (m * fs.size) ++ (List.range m).flatMap Pl) ∧
      ∀ i, i < m → ∃ (ys : List (DataW H × List MemPlace)) (n : Nat), D i = .agg (ys.map (·.1)) ∧ Pl i = ys.flatMap (·.2) ∧ ys.length = fs.size ∧
        ∀ (j : Nat) (f : Field), fs[j]? = some f → ∃ (v : Value) (y : DataW H × List MemPlace), w.cell? (a.add (i * fs.size + j)) = some v ∧ ys[j]? = some y ∧ DataW.trod enc P w base spare held n f.type [v] = some y := by
  rcases open_slice ht h with h0 | ⟨a, len, cap, m, n, D, Pl, hcs, hb, hl, hm, hmm, hx, hi⟩
  · exact .inl h0
  · refine .inr ⟨a, len, cap, m, D, Pl, hcs, hb, hl, hm, hmm, by rw [hC] at hx; exact hx, fun i him => ?_⟩
    obtain ⟨cs', hc, ht'⟩ := hi i him
    rw [hC] at hc
    obtain ⟨ys, n', hn', hy, hlen, hyl, hf⟩ := DataW.trod_struct he ht'
    obtain ⟨_, hcl, hat⟩ := World.cells?_some hc
    simp only [Prod.mk.injEq] at hy
    refine ⟨ys, n', hy.1, hy.2, hyl, fun j f hj => ?_⟩
    obtain ⟨ho, hk⟩ := hone_of hone j f hj
    have hjl : j < fs.size := (Array.getElem?_eq_some_iff.1 hj).1
    have hcell := hat j hjl
    have hv : cs'[j]? = some (cs'[j]'(by omega)) := List.getElem?_eq_getElem (by omega)
    have h1 := hf j f hj
    rw [ho, hk] at h1
    have hone' : (cs'.drop j).take 1 = [cs'[j]'(by omega)] := by
      rw [List.drop_eq_getElem_cons (by omega)]
      rfl
    rw [hone'] at h1
    have hys : ys[j]? = some (ys[j]'(by omega)) := List.getElem?_eq_getElem (by omega)
    refine ⟨_, _, ?_, hys, h1.trans hys⟩
    rw [← Go.Deep.add_add, hcell, hv]
end

theorem addr_plain {w : World} {a : Addr} {v : Value} (h : w.cell? (a.add 0) = some v) : ∃ b off, a = ⟨b, off, none⟩ := by
  obtain ⟨b, off, spot⟩ := a
  cases spot with
  | none => exact ⟨b, off, rfl⟩
  | some s => simp [Addr.add, World.cell?] at h; split at h <;> simp at h


open PCodeSays in
theorem open_ops {H : Type} {enc : TypeId × Value → H} {W : World} {base : Nat} {sp : Nat → Bool} {ad : Option Addr} {len cap : Nat} {fuel : Nat} {x : DataW H × List MemPlace}
    (hf : DataW.trod enc Try.prog W base sp true fuel 22 [.slice ad len cap] = some x) :
    ∃ l : List S29, len = l.length ∧ Row W ad l ∧ l.length ≤ cap ∧ l.length ≤ Rows.uptoBulk x.1 ∧ ((∃ Ds Es, x.1 = .slice Ds Es ∧ Ds.length = l.length) ∨ l = []) := by
  rcases open_slice_fields Try.underlying22 Try.underlying29 (by kernel_rfl) Try.cells29 hf with ⟨hcs, hx⟩ | ⟨a, len', cap', m, D, Pl, hcs, _, hl, hm, hz, hx, hi⟩
  · simp at hcs
    obtain ⟨rfl, rfl, rfl⟩ := hcs
    exact ⟨[], rfl, Row.nil _ _, by simp, by simp, .inr rfl⟩
  · simp at hcs
    obtain ⟨rfl, rfl, rfl⟩ := hcs
    subst hx
    have hlm : len ≤ m := by split at hz <;> omega
    have hel : ∀ i, i < len → ∃ p : S29, W.cell? (a.add (i * 2)) = some (.int .i64 p.f0) ∧ W.cell? (a.add (i * 2 + 1)) = some (.int .u64 p.f1) := by
      intro i hil
      obtain ⟨ys, n, _, _, _, hfi⟩ := hi i (by omega)
      obtain ⟨x0, y0, c0, _, t0⟩ := hfi 0 _ rfl
      obtain ⟨x1, y1, c1, _, t1⟩ := hfi 1 _ rfl
      obtain ⟨n0, z0, _, _⟩ := DataW.trod_int Try.underlying3 t0
      obtain ⟨n1, z1, _, _⟩ := DataW.trod_int Try.underlying23 t1
      simp at z0 z1
      subst z0; subst z1
      exact ⟨⟨n0, n1⟩, c0, c1⟩
    let l : List S29 := (List.range len).map (fun i => if h : i < len then (hel i h).choose else ⟨0, 0⟩)
    have hlen : l.length = len := by simp [l]
    have hb := bulk_len (H := H) ((List.range len).map D)
    simp only [List.length_map, List.length_range] at hb
    refine ⟨l, hlen.symm, ⟨by unfold maxLen at hm; omega, by rw [flatS_length], fun hp => ?_⟩, by omega, by simp only [Rows.uptoBulk]; omega, .inl ⟨_, _, rfl, by simp [hlen]⟩⟩
    obtain ⟨pe, e0, _⟩ := hel 0 (by omega)
    refine ⟨a, rfl, World.block_lt_of_cell? W _ e0, fun j u hu => ?_⟩
    have hj : j < l.length * 2 := by have := (List.getElem?_eq_some_iff.1 hu).1; rw [flatS_length] at this; exact this
    have hd : j = j / 2 * 2 + j % 2 := by omega
    rw [hd] at hu ⊢
    have hq : j / 2 < l.length := by omega
    rw [flatS_get l (j / 2) (j % 2) hq (by omega)] at hu
    have hil : j / 2 < len := by omega
    have he : l[j / 2] = (hel (j / 2) hil).choose := by simp [l, hil]
    rw [he] at hu
    have hs := (hel (j / 2) hil).choose_spec
    rcases (show j % 2 = 0 ∨ j % 2 = 1 by omega) with h0 | h0
    · rw [h0] at hu ⊢
      simp [cS] at hu
      rw [← hu]; exact hs.1
    · rw [h0] at hu ⊢
      simp [cS] at hu
      rw [← hu]; exact hs.2
end codeRows
end Go.Proofs.Ytfbejjobejdenaa
