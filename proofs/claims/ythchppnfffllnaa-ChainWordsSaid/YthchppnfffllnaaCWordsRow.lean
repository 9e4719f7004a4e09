/- ChainWords: for every list of words the law returns true; its arguments read as they did. No condition. -/
import Derived.Test.YthchppnfffllnaaCRows
import Derived.Test.YthchppnfffllnaaCSWords
import Derived.ChangeSlices
import Derived.SliceStrings
import Derived.Test.YthchppnfffllnaaPost
import Derived.SizedLaws
import Derived.ChangeSame
import Derived.Lib.SmallJoins
set_option linter.unusedVariables false
set_option linter.unusedSimpArgs false
namespace Go.Proofs.Ythchppnfffllnaa
namespace chainWords
open Go.Joins Go.ChangeShapes Go.WideShapes Go.ChangeAt Go.RowKit Go.Deep
theorem cells9 : Try.prog.cellsOf 9 = 1 := by kernel_rfl
theorem bytes9 : Try.prog.bytesOf 9 = 16 := by kernel_rfl
theorem weights_strs {H : Type} (l : List ByteArray) (x : ByteArray) (hx : x ∈ l) : x.size ∈ DataW.weightsAll (H := H) Try.prog 9 (strs l) := by
  induction l with
  | nil => cases hx
  | cons a l ih =>
    simp only [strs, List.map_cons, DataW.weightsAll, List.mem_append]
    rcases List.mem_cons.1 hx with rfl | h
    · left
      simp [DataW.weights]
      try rfl
    · exact .inr (ih h)
theorem own : ownKnob Try.prog.godebug = none := by kernel_rfl
set_option maxRecDepth 100000 in
set_option maxHeartbeats 2000000 in
theorem lifted (os : Os) (started : os.Started) (H : Type) (enc : TypeId × Value → H) :
    ReturnsInHanded {} Try.checked os 7 .any (Rows.chainWordsSpec.pre6 enc Try.prog Try.f7 Rows.chainWordsRow.domain false) (Rows.chainWordsSpec.post enc Try.prog Try.f7 false true false false) := by
  refine returnsInHanded_of_change_sized (C := Try.checked) own started (by kernel_rfl) Try.func7
    (ChangeSpec.witness6 (enc := enc) (C := Try.checked) false ⟨#[], #[.slice none 0 0], []⟩ 8 (by kernel_rfl) (by kernel_rfl) (by kernel_rfl) (by kernel_rfl)) ?_
  intro W base args ds gs before hval0 hW _ hsz0 _
  have hsz : (DataW.weightsEach Try.prog (Try.f7.params.toList ++ Rows.chainWordsSpec.plain.varTypes Try.prog) (ds ++ gs)).all (· ≤ reachBytes) = true := hsz0
  clear hsz0
  have hval : ∀ (j : Nat) t v, Try.f7.params[j]? = some t → args[j]? = some v → Value.okWide Try.prog W .any base t v := hval0
  have hW' := hW
  obtain ⟨p, q, hA0, hV, rfl, hfz, hnd⟩ := hW
  have hA : DataW.TrodAll enc Try.prog W 0 (fun _ => true) true Try.f7.params.toList args.toList ds p := hA0
  rw [Try.params7] at hA hval hsz
  obtain ⟨v0, vs0, d0, ds0, p0, q0, hargs, rfl, rfl, h0, r0⟩ := trodAll_cons hA
  obtain ⟨rfl, rfl, rfl⟩ := trodAll_nil r0
  obtain rfl : args = #[v0] := by cases args; simp_all
  obtain ⟨rfl, rfl⟩ := trodVars_none hV
  clear hA0 hval0
  simp only [List.append_nil, List.nil_append] at hW'
  have hlt : ∀ x ∈ p0, x.block < W.heap.size := fun x hx => hW'.lt x (by simpa using hx)
  have fin : Calls Try.prog 7 #[v0] W (fun (e : Ending) W' => e = .returned (.bool true) ∧ Below W.heap.size W W') := by
    obtain ⟨fuel, hf⟩ := h0
    obtain ⟨ad, len, cap, rfl⟩ := okWide_slice Try.underlying56 (hval 0 56 v0 rfl rfl)
    have hr : reachBytes = 140737488351232 := rfl
    rcases open_strings Try.underlying56 Try.underlying9 cells9 hf with ⟨hcs, hx⟩ | ⟨a, len', cap', ss, hcs, _, hl, hm, hz, hx, hcell, _⟩
    · simp [Value.cells] at hcs
      obtain ⟨rfl, rfl, rfl⟩ := hcs
      exact CS.words_c (l := []) ⟨by simp [CS.flat], fun h => absurd h (by omega)⟩ rfl (by omega) (by omega) (fun h => absurd h (by omega)) (fun x hx => by cases hx)
    · simp [Value.cells] at hcs
      obtain ⟨rfl, rfl, rfl⟩ := hcs
      simp only [Prod.mk.injEq] at hx
      obtain ⟨rfl, rfl⟩ := hx
      simp only [if_true] at hz
      have hlen : (ss.take len).length = len := by simp; omega
      have hb : len * 16 ≤ reachBytes := by
        have := sized_slice hsz (j := 0) rfl rfl Try.underlying56
        rw [bytes9] at this
        have h2 : (strs (H := H) (ss.take len)).length = len := by simp [strs]; omega
        rw [h2] at this
        omega
      have hss : ∀ x ∈ ss.take len, x.size ≤ 140737488355328 := fun x hx => by
        have h1 := DataW.weights_mem_each (P := Try.prog) (ts := 56 :: Rows.chainWordsSpec.plain.varTypes Try.prog) (ds := [DataW.slice (strs (H := H) (ss.take len)) (strs (ss.drop len))]) (j := 0) rfl rfl x.size (by
          simp only [DataW.weights, Try.underlying56]
          refine List.mem_cons_of_mem _ (List.mem_append_left _ ?_)
          exact weights_strs _ x hx)
        have h2 := List.all_eq_true.1 hsz _ (by simpa using h1)
        simp at h2
        omega
      rcases Nat.eq_zero_or_pos len with hz0 | hpos
      · subst hz0
        exact CS.words_c (l := []) ⟨by simp [CS.flat], fun h => absurd h (by omega)⟩ rfl (by omega) (by omega) (fun h => absurd h (by omega)) (fun x hx => by cases hx)
      · have hc0 := hcell 0 (by omega)
        obtain ⟨b, off, rfl⟩ := chainRows.addr_plain hc0
        have hadd : ∀ i, (⟨b, off, none⟩ : Addr).add i = ⟨b, off + i, none⟩ := fun i => by unfold Addr.add; split <;> simp_all
        refine CS.words_c (l := ss.take len) ⟨by rw [CS.flat_length, hlen], fun _ => ⟨⟨b, off, none⟩, rfl, World.block_lt_of_cell? W _ (by rw [hadd] at hc0; exact hc0), fun j u hu => ?_⟩⟩ hlen.symm (by omega) hl (fun _ => ⟨b, off, rfl⟩) hss
        have hj : j < len := by have := (List.getElem?_eq_some_iff.1 hu).1; rw [CS.flat_length, hlen] at this; omega
        have hjt : j < (ss.take len).length := by omega
        have h1 := CS.flat_get (ss.take len) j 0 hjt (by omega)
        simp only [Nat.mul_one, Nat.add_zero] at h1
        rw [h1] at hu
        simp [CS.ct] at hu
        have hjs : j < ss.length := by omega
        have h2 := hcell j (by omega)
        rw [h2, ← hu]
        simp [List.getD, hjs]
  refine fin.mono fun e W' ⟨he, hg⟩ => ?_
  subst he
  exact ⟨_, rfl, post_of_below (pa := p0) (pv := []) (ds := [d0]) (gs := []) (before := p0) (by simpa using hW') (fun _ _ _ => (trodAll_cons_mk (shut_bool Try.underlying4 _) trodAll_mk0))
    (fun sp hsp => by
      have hT := trodAll_cons_mk (WideElems.Trod_stays (sp' := sp) Try.laidOut (by kernel_rfl) (of_decide_eq_true (by kernel_rfl)) h0 (fun x hx => hg.same (hlt x hx)) (fun x hx => hsp x hx)) (trodAll_mk0 (enc := enc) (P := Try.prog) (w := W') (base := 0) (spare := sp) (held := true))
      rw [List.append_nil] at hT
      exact hT) (fun _ _ => rfl) (by simp) hg (ok_one (by kernel_rfl) rfl (okWide_bool_mk Try.underlying4 _))⟩

theorem over : Rows.chainWordsRow.holds Try.pinned (OpenSpec.ofChange Rows.chainWordsSpec) :=
  OpenClaim.holds_of_wide 7 Try.f7 rfl rfl rfl rfl rfl rfl rfl ⟨rfl, rfl, rfl, rfl, rfl⟩ rfl rfl rfl rfl rfl (by kernel_rfl) Try.func7 (by kernel_rfl)
    (of_decide_eq_true (by kernel_rfl)) (by unfold Func.isWrapper; first | (rw [if_pos (by decide +kernel)]; kernel_rfl) | (rw [if_neg (by decide +kernel)]; exact ⟨rfl, rfl⟩))
    (fun os started H enc _ => lifted os started H enc)
end chainWords
theorem chainWords_holds : Rows.ChainWordsSaid := chainWords.over
end Go.Proofs.Ythchppnfffllnaa
#print axioms Go.Proofs.Ythchppnfffllnaa.chainWords_holds
