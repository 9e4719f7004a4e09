/- ChainLeast: for every two lists the law returns true; its arguments read as they did. No condition. -/
import Derived.Test.YthchppnfffllnaaCRows
import Derived.Test.YthchppnfffllnaaCPLeast
import Derived.ChangeSlices
import Derived.Test.YthchppnfffllnaaPost
import Derived.SizedLaws
import Derived.ChangeSame
import Derived.Lib.SmallJoins
set_option linter.unusedVariables false
set_option linter.unusedSimpArgs false
namespace Go.Proofs.Ythchppnfffllnaa
namespace chainLeast
open Go.Joins Go.ChangeShapes Go.WideShapes Go.ChangeAt Go.RowKit Go.Deep
theorem own : ownKnob Try.prog.godebug = none := by kernel_rfl
set_option maxRecDepth 100000 in
set_option maxHeartbeats 2000000 in
theorem lifted (os : Os) (started : os.Started) (H : Type) (enc : TypeId × Value → H) :
    ReturnsInHanded {} Try.checked os 4 .any (Rows.chainLeastSpec.pre6 enc Try.prog Try.f4 Rows.chainLeastRow.domain false) (Rows.chainLeastSpec.post enc Try.prog Try.f4 false true false false) := by
  refine returnsInHanded_of_change_sized (C := Try.checked) own started (by kernel_rfl) Try.func4
    (ChangeSpec.witness6 (enc := enc) (C := Try.checked) false ⟨#[], #[.slice none 0 0, .slice none 0 0], []⟩ 8 (by kernel_rfl) (by kernel_rfl) (by kernel_rfl) (by kernel_rfl)) ?_
  intro W base args ds gs before hval0 hW _ hsz0 _
  have hsz : (DataW.weightsEach Try.prog (Try.f4.params.toList ++ Rows.chainLeastSpec.plain.varTypes Try.prog) (ds ++ gs)).all (· ≤ reachBytes) = true := hsz0
  clear hsz0
  have hval : ∀ (j : Nat) t v, Try.f4.params[j]? = some t → args[j]? = some v → Value.okWide Try.prog W .any base t v := hval0
  have hW' := hW
  obtain ⟨p, q, hA0, hV, rfl, hfz, hnd⟩ := hW
  have hA : DataW.TrodAll enc Try.prog W 0 (fun _ => true) true Try.f4.params.toList args.toList ds p := hA0
  rw [Try.params4] at hA hval hsz
  obtain ⟨v0, vs0, d0, ds0, p0, q0, hargs, rfl, rfl, h0, r0⟩ := trodAll_cons hA
  obtain ⟨v1, vs1, d1, ds1, p1, q1, rfl, rfl, rfl, h1, r1⟩ := trodAll_cons r0
  obtain ⟨rfl, rfl, rfl⟩ := trodAll_nil r1
  obtain rfl : args = #[v0, v1] := by cases args; simp_all
  obtain ⟨rfl, rfl⟩ := trodVars_none hV
  clear hA0 hval0
  simp only [List.append_nil, List.nil_append] at hW'
  have hlt : ∀ x ∈ p0 ++ p1, x.block < W.heap.size := fun x hx => hW'.lt x (by simpa using hx)
  have fin : Calls Try.prog 4 #[v0, v1] W (fun (e : Ending) W' => e = .returned (.bool true) ∧ Below W.heap.size W W') := by
    obtain ⟨fuel, hf⟩ := h0
    obtain ⟨fuel1, hf1⟩ := h1
    obtain ⟨ad, len, cap, rfl⟩ := okWide_slice Try.underlying29 (hval 0 29 v0 rfl rfl)
    obtain ⟨ad1, len1, cap1, rfl⟩ := okWide_slice Try.underlying29 (hval 1 29 v1 rfl rfl)
    obtain ⟨l, hl, rl, hc, bl, al⟩ := chainRows.open_pairs (x := (d0, p0)) hf
    obtain ⟨m, hm, rm, hcm, bm, am⟩ := chainRows.open_pairs (x := (d1, p1)) hf1
    have hb : len * 16 ≤ reachBytes := by
      rcases bl with ⟨Ds, Es, h3, h4⟩ | h3
      · simp only at h3
        subst h3
        have := sized_slice hsz (j := 0) rfl rfl Try.underlying29
        rw [Try.bytes35] at this
        omega
      · simp [h3, reachBytes]
    have hb1 : len1 * 16 ≤ reachBytes := by
      rcases bm with ⟨Ds, Es, h3, h4⟩ | h3
      · simp only at h3
        subst h3
        have := sized_slice hsz (j := 1) rfl rfl Try.underlying29
        rw [Try.bytes35] at this
        omega
      · simp [h3, reachBytes]
    have hr : reachBytes = 140737488351232 := rfl
    exact CP.least_c rl hl (by omega) hc (fun h => by obtain ⟨b, off, e, _⟩ := al h; exact ⟨b, off, e⟩) rm hm (by omega) hcm (fun h => by obtain ⟨b, off, e, _⟩ := am h; exact ⟨b, off, e⟩)
  refine fin.mono fun e W' ⟨he, hg⟩ => ?_
  subst he
  exact ⟨_, rfl, post_of_below (pa := p0 ++ p1) (pv := []) (ds := [d0, d1]) (gs := []) (before := p0 ++ p1) (by simpa using hW') (fun _ _ _ => (trodAll_cons_mk (shut_bool Try.underlying4 _) trodAll_mk0))
    (fun sp hsp => by
      have hT := trodAll_cons_mk (WideElems.Trod_stays (sp' := sp) Try.laidOut (by kernel_rfl) (of_decide_eq_true (by kernel_rfl)) h0 (fun x hx => hg.same (hlt x (by simp [hx]))) (fun x hx => hsp x (by simp [hx])))
        (trodAll_cons_mk (WideElems.Trod_stays (sp' := sp) Try.laidOut (by kernel_rfl) (of_decide_eq_true (by kernel_rfl)) h1 (fun x hx => hg.same (hlt x (by simp [hx]))) (fun x hx => hsp x (by simp [hx]))) (trodAll_mk0 (enc := enc) (P := Try.prog) (w := W') (base := 0) (spare := sp) (held := true)))
      rw [List.append_nil] at hT
      exact hT) (fun _ _ => rfl) (by simp) hg (ok_one (by kernel_rfl) rfl (okWide_bool_mk Try.underlying4 _))⟩

theorem over : Rows.chainLeastRow.holds Try.pinned (OpenSpec.ofChange Rows.chainLeastSpec) :=
  OpenClaim.holds_of_wide 4 Try.f4 rfl rfl rfl rfl rfl rfl rfl ⟨rfl, rfl, rfl, rfl, rfl⟩ rfl rfl rfl rfl rfl (by kernel_rfl) Try.func4 (by kernel_rfl)
    (of_decide_eq_true (by kernel_rfl)) (by unfold Func.isWrapper; first | (rw [if_pos (by decide +kernel)]; kernel_rfl) | (rw [if_neg (by decide +kernel)]; exact ⟨rfl, rfl⟩))
    (fun os started H enc _ => lifted os started H enc)
end chainLeast
theorem chainLeast_holds : Rows.ChainLeastSaid := chainLeast.over
end Go.Proofs.Ythchppnfffllnaa
#print axioms Go.Proofs.Ythchppnfffllnaa.chainLeast_holds
