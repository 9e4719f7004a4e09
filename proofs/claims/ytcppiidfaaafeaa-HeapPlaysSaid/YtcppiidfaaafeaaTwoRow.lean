/- HeapTwo: where what it reads is of bulk at most 1048576 (the second form), the law returns true; its argument reads as it did. -/
import Derived.Test.YtcppiidfaaafeaaTwo4
import Derived.Test.YtcppiidfaaafeaaPost
import Derived.WalkKit
import Derived.ProofKit
import Derived.OpenShut
import Derived.JoinedCond
import Derived.SliceStrings
set_option linter.unusedVariables false
set_option linter.unusedSimpArgs false
namespace Go.Proofs.Ytcppiidfaaafeaa
open Go.RowKit
namespace Two
set_option maxHeartbeats 2000000 in
theorem two_zero (A : Option Addr) (c : Nat) (w : World) : Calls Try.prog 4 #[.slice A 0 c] w fun e w' => e = .returned (.bool true) ∧ Below w.heap.size w w' := by
  obtain ⟨B, hB⟩ : ∃ B, B = w.heap.size := ⟨_, rfl⟩
  rw [← hB]
  have hBl : B ≤ w.heap.size := by omega
  clear hB
  go_enter Try.func4, Try.ntmps4
  go_wp2_with fail
  refine (taken_c _).mono ?_
  rintro e w1 ⟨rfl, b1⟩
  have c1 : Below B w w1 := b1.mono hBl
  clear b1
  go_wp2_with fail
  refine (HS.new_c (B := B) 12 _ (Nat.le_trans hBl c1.size)).mono ?_
  rintro e w2 ⟨rfl, H2, b2⟩
  have c2 := c1.trans (b2.mono (Nat.le_trans hBl c1.size))
  obtain ⟨hb, hhb⟩ : ∃ hb, hb = w1.heap.size := ⟨_, rfl⟩
  rw [← hhb] at H2 ⊢
  clear b2 c1 hhb
  go_wp2_with fail
  refine (HS.new_c (B := B) 13 _ (Nat.le_trans hBl c2.size)).mono ?_
  rintro e w3 ⟨rfl, G3, b3⟩
  have c3 := c2.trans (b3.mono (Nat.le_trans hBl c2.size))
  have H3 := H2.below b3
  obtain ⟨gb, hgb⟩ : ∃ gb, gb = w2.heap.size := ⟨_, rfl⟩
  rw [← hgb] at G3 ⊢
  clear b3 c2 H2 hgb
  go_wp2_with fail
  refine wp_loop_rounds 1 ?_
  rw [rounds_succ]
  go_wp2_with fail
  refine wp_loop_rounds 1 ?_
  rw [rounds_succ]
  go_wp2_with fail
  refine (HS.pop_no H3).mono ?_
  rintro e w4 ⟨rfl, b4⟩
  have G4 := G3.below b4
  have c4 := c3.trans (b4.mono (Nat.le_trans hBl c3.size))
  go_wp2_with fail
  refine (HS.pop_no G4).mono ?_
  rintro e w5 ⟨rfl, b5⟩
  have c5 := c4.trans (b5.mono (Nat.le_trans hBl c4.size))
  go_wp2_with fail
  refine (sorted_zero none A 0 c w5).mono ?_
  rintro e w6 ⟨rfl, b6⟩
  have c6 := c5.trans (b6.mono (Nat.le_trans hBl c5.size))
  go_wp2_with fail
  refine (alike_zero none A 0 c w6).mono ?_
  rintro e w7 ⟨rfl, b7⟩
  go_wp2
  go_ret
  exact ⟨rfl, c6.trans (b7.mono (Nat.le_trans hBl c6.size))⟩
end Two
theorem bulk_len {H : Type} (l : List (DataW H)) : l.length ≤ Rows.uptoBulkAll l := by
  induction l with
  | nil => simp [Rows.uptoBulkAll]
  | cons x r ih =>
    have : 1 ≤ Rows.uptoBulk x := by
      cases x with
      | lit l => cases l <;> simp [Rows.uptoBulk]
      | _ => simp [Rows.uptoBulk]
    simp only [Rows.uptoBulkAll, List.length_cons]; omega
theorem Try.laidOut : laidOutB Try.prog = true := by kernel_rfl
theorem Try.cells9 : Try.prog.cellsOf 9 = 1 := by kernel_rfl
namespace heapTwo
open Go.ChangeShapes Go.WideShapes Go.ChangeAt Go.RowKit
theorem own : ownKnob Try.prog.godebug = none := by kernel_rfl
theorem contract (H : Type) (enc : TypeId × Value → H) (W : World) (base : Nat) (args : Array Value) (ds gs : List (DataW H)) (before : List MemPlace)
    (hval : ∀ (j : Nat) t v, Try.f4.params[j]? = some t → args[j]? = some v → Value.okWide Try.prog W .any base t v)
    (hW : DataW.Whole enc Try.prog Try.f4.params.toList Rows.heapTwoSpec.vars false W args.toList ds gs before)
    (hk : Rows.uptoSmall H (ds ++ gs) = true) :
    Calls Try.prog 4 args W fun e W' => ∃ v, e = .returned v ∧ Rows.heapTwoSpec.post enc Try.prog Try.f4 false true false false W args v W' := by
  have hW' := hW
  obtain ⟨p, q, hA0, hV, rfl, hfz, hnd⟩ := hW
  have hA : DataW.TrodAll enc Try.prog W 0 (fun _ => true) true Try.f4.params.toList args.toList ds p := hA0
  rw [Try.params4] at hA hval
  obtain ⟨v0, vs0, d0, ds0, p0, q0, hargs, rfl, rfl, h0, r0⟩ := trodAll_cons hA
  obtain ⟨rfl, rfl, rfl⟩ := trodAll_nil r0
  obtain rfl : args = #[v0] := by cases args; simp_all
  obtain ⟨rfl, rfl⟩ := trodVars_none hV
  simp only [List.append_nil] at hW' hk
  have hlt : ∀ x ∈ p0, x.block < W.heap.size := fun x hx => hW'.lt x (by simpa using hx)
  have fin : Calls Try.prog 4 #[v0] W (fun (e : Ending) W' => e = .returned (.bool true) ∧ Below W.heap.size W W') := by
    obtain ⟨fuel, hf⟩ := h0
    obtain ⟨a0, len, cap, rfl⟩ := okWide_slice Try.underlying41 (hval 0 41 v0 rfl rfl)
    rcases open_strings Try.underlying41 Try.underlying9 Try.cells9 hf with ⟨hcs, hx⟩ | ⟨a, len', cap', ss, hcs, _, hl, hm, hz, hx, hcell, _⟩
    · simp [Value.cells] at hcs
      obtain ⟨rfl, rfl, rfl⟩ := hcs
      exact Two.two_zero none 0 W
    · simp [Value.cells] at hcs
      obtain ⟨rfl, rfl, rfl⟩ := hcs
      simp only [Prod.mk.injEq] at hx
      obtain ⟨rfl, rfl⟩ := hx
      simp only [if_true] at hz
      have hb : len ≤ 1048576 := by
        have h1 : Rows.uptoBulkAll [DataW.slice (strs (ss.take len)) (strs (ss.drop len))] ≤ 1048576 := of_decide_eq_true hk
        simp only [Rows.uptoBulkAll, Rows.uptoBulk] at h1
        have h2 := bulk_len (H := H) (strs (ss.take len))
        have h3 : (strs (H := H) (ss.take len)).length = len := by simp [strs]; omega
        omega
      rcases Nat.eq_zero_or_pos len with hz0 | hpos
      · subst hz0; exact Two.two_zero _ _ W
      · have hlen : (ss.take len).length = len := by simp; omega
        have hc0 := hcell 0 (by omega)
        obtain ⟨b, off, spot⟩ := a
        have hsp : spot = none := by
          cases spot with
          | none => rfl
          | some s => simp [Addr.add, World.cell?] at hc0; split at hc0 <;> simp at hc0
        subst hsp
        have key := Two.two_some (ss.take len) b off cap W (World.block_lt_of_cell? W _ hc0) (fun j q hq => by
          have hj : j < len := by have := (List.getElem?_eq_some_iff.1 hq).1; omega
          have := hcell j (by omega)
          have e : (⟨b, off, none⟩ : Addr).add j = ⟨b, off + j, none⟩ := by unfold Addr.add; split <;> simp_all
          rw [e] at this
          rw [this]
          rw [List.getElem?_take_of_lt hj] at hq
          simp [List.getD, hq]) (by omega)
        rw [hlen] at key
        exact key
  refine fin.mono fun e W' ⟨he, hg⟩ => ?_
  subst he
  exact ⟨_, rfl, post_of_below (pa := p0) (pv := []) (ds := [d0]) (gs := []) (before := p0) (by simpa using hW') (fun _ _ _ => (trodAll_cons_mk (shut_bool Try.underlying4 _) trodAll_mk0))
    (fun sp hsp => by
      have hT := trodAll_cons_mk (WideElems.Trod_stays (sp' := sp) Try.laidOut (by kernel_rfl) (of_decide_eq_true (by kernel_rfl)) h0 (fun x hx => hg.same (hlt x hx)) (fun x hx => hsp x hx)) (trodAll_mk0 (enc := enc) (P := Try.prog) (w := W') (base := 0) (spare := sp) (held := true))
      rw [List.append_nil] at hT
      exact hT) (fun _ _ => rfl) (by simp)
    hg (ok_one (by kernel_rfl) rfl (okWide_bool_mk Try.underlying4 _))⟩

set_option maxRecDepth 100000 in
theorem lifted (os : Os) (started : os.Started) (H : Type) (enc : TypeId × Value → H) (F : Stop.Interp) :
    ReturnsInHanded {} Try.checked os 4 .any ((Rows.OpenSpec.upto Rows.heapTwoSpec).pre6 enc Try.prog Try.f4 Rows.heapTwoUptoRow.domain false) (((Rows.OpenSpec.upto Rows.heapTwoSpec).at F).post enc Try.prog Try.f4 false true false false) := by
  refine returnsInHanded_of_cond (C := Try.checked) (s := Rows.OpenSpec.upto Rows.heapTwoSpec) (k := Rows.uptoSmall) rfl own started (by kernel_rfl) Try.func4
    (OpenSpec.witness (enc := enc) (C := Try.checked) (s := Rows.OpenSpec.upto Rows.heapTwoSpec) (k := Rows.uptoSmall) rfl false ⟨#[], #[.slice none 0 0], []⟩ 8 (by kernel_rfl) (by kernel_rfl) (by kernel_rfl)
      (x := ([.nil], [], [])) (by kernel_rfl) rfl (by kernel_rfl)) ?_
  intro W base args ds gs before hval hW _ hk _
  exact contract H enc W base args ds gs before hval hW hk
theorem over : Rows.heapTwoUptoRow.holds Try.pinned (Rows.OpenSpec.upto Rows.heapTwoSpec) :=
  OpenClaim.holds_of_cond 4 Try.f4 rfl rfl rfl rfl rfl rfl rfl ⟨rfl, rfl, rfl, rfl, rfl⟩ rfl rfl rfl rfl rfl (by kernel_rfl) Try.func4 (by kernel_rfl)
    (of_decide_eq_true (by kernel_rfl)) (by unfold Func.isWrapper; first | (rw [if_pos (by decide +kernel)]; kernel_rfl) | (rw [if_neg (by decide +kernel)]; exact ⟨rfl, rfl⟩))
    (fun os started H enc _ F => lifted os started H enc F)
end heapTwo
theorem heapTwoUpto_holds : Rows.HeapTwoUptoSaid := heapTwo.over
end Go.Proofs.Ytcppiidfaaafeaa
#print axioms Go.Proofs.Ytcppiidfaaafeaa.heapTwoUpto_holds
