/- ChainCuts: for every kind, list and pair the law returns true; its arguments read as they did. No condition. -/
import Derived.Test.YthchppnfffllnaaCRows
import Derived.Test.YthchppnfffllnaaPost
import Derived.SizedLaws
import Derived.ChangeSame
import Derived.Lib.SmallJoins
set_option linter.unusedVariables false
set_option linter.unusedSimpArgs false
namespace Go.Proofs.Ythchppnfffllnaa
namespace chainCuts
open Go.Joins Go.ChangeShapes Go.WideShapes Go.ChangeAt Go.RowKit Go.Deep
theorem own : ownKnob Try.prog.godebug = none := by kernel_rfl
set_option maxRecDepth 100000 in
set_option maxHeartbeats 2000000 in
theorem lifted (os : Os) (started : os.Started) (H : Type) (enc : TypeId × Value → H) :
    ReturnsInHanded {} Try.checked os 6 .any (Rows.chainCutsSpec.pre6 enc Try.prog Try.f6 Rows.chainCutsRow.domain false) (Rows.chainCutsSpec.post enc Try.prog Try.f6 false true false false) := by
  refine returnsInHanded_of_change_sized (C := Try.checked) own started (by kernel_rfl) Try.func6
    (ChangeSpec.witness6 (enc := enc) (C := Try.checked) false ⟨#[], #[.int .i64 0, .slice none 0 0, .agg #[.int .i64 0, .int .i64 0]], []⟩ 8 (by kernel_rfl) (by kernel_rfl) (by kernel_rfl) (by kernel_rfl)) ?_
  intro W base args ds gs before hval0 hW _ hsz0 _
  have hsz : (DataW.weightsEach Try.prog (Try.f6.params.toList ++ Rows.chainCutsSpec.plain.varTypes Try.prog) (ds ++ gs)).all (· ≤ reachBytes) = true := hsz0
  clear hsz0
  have hval : ∀ (j : Nat) t v, Try.f6.params[j]? = some t → args[j]? = some v → Value.okWide Try.prog W .any base t v := hval0
  have hW' := hW
  obtain ⟨p, q, hA0, hV, rfl, hfz, hnd⟩ := hW
  have hA : DataW.TrodAll enc Try.prog W 0 (fun _ => true) true Try.f6.params.toList args.toList ds p := hA0
  rw [Try.params6] at hA hval hsz
  obtain ⟨v0, vs0, d0, ds0, p0, q0, hargs, rfl, rfl, h0, r0⟩ := trodAll_cons hA
  obtain ⟨v1, vs1, d1, ds1, p1, q1, rfl, rfl, rfl, h1, r1⟩ := trodAll_cons r0
  obtain ⟨v2, vs2, d2, ds2, p2, q2, rfl, rfl, rfl, h2, r2⟩ := trodAll_cons r1
  obtain ⟨rfl, rfl, rfl⟩ := trodAll_nil r2
  obtain rfl : args = #[v0, v1, v2] := by cases args; simp_all
  obtain ⟨rfl, rfl⟩ := trodVars_none hV
  obtain ⟨a0, rfl, rfl, rfl, w0⟩ := open_int Try.underlying3 (hval 0 3 v0 rfl rfl) h0
  clear hA0 hval0
  simp only [List.append_nil, List.nil_append] at hW'
  have hlt : ∀ x ∈ p1 ++ p2, x.block < W.heap.size := fun x hx => hW'.lt x (by simpa using hx)
  have fin : Calls Try.prog 6 #[.int .i64 a0, v1, v2] W (fun (e : Ending) W' => e = .returned (.bool true) ∧ Below W.heap.size W W') := by
    obtain ⟨x0, x1, y0, y1, n, rfl, _, _, t0, t1⟩ := open_agg2 Try.underlying35 (by kernel_rfl) Try.cells35 (hval 2 35 v2 rfl rfl) h2
    obtain ⟨k0, z0, _, e0⟩ := DataW.trod_int Try.underlying3 t0
    obtain ⟨k1, z1, _, e1⟩ := DataW.trod_int Try.underlying3 t1
    simp at z0 z1
    subst z0; subst z1
    obtain ⟨fuel, hf⟩ := h1
    obtain ⟨ad, len, cap, rfl⟩ := okWide_slice Try.underlying29 (hval 1 29 v1 rfl rfl)
    obtain ⟨l, hl, rl, hc, bl, _⟩ := chainRows.open_pairs (x := (d1, p1)) hf
    have hb : len * 16 ≤ reachBytes := by
      rcases bl with ⟨Ds, Es, h3, h4⟩ | h3
      · simp only at h3
        subst h3
        have := sized_slice hsz (j := 1) rfl rfl Try.underlying29
        rw [Try.bytes35] at this
        omega
      · simp [h3, reachBytes]
    have hr : reachBytes = 140737488351232 := rfl
    exact CP.cuts_c rl hl (by omega) hc a0 ⟨k0, k1⟩
  refine fin.mono fun e W' ⟨he, hg⟩ => ?_
  subst he
  exact ⟨_, rfl, post_of_below (pa := p1 ++ p2) (pv := []) (ds := [.lit (.int .i64 a0), d1, d2]) (gs := []) (before := p1 ++ p2) (by simpa using hW') (fun _ _ _ => (trodAll_cons_mk (shut_bool Try.underlying4 _) trodAll_mk0))
    (fun sp hsp => by
      have hT := trodAll_cons_mk (shut_int Try.underlying3 w0) (trodAll_cons_mk (WideElems.Trod_stays (sp' := sp) Try.laidOut (by kernel_rfl) (of_decide_eq_true (by kernel_rfl)) h1 (fun x hx => hg.same (hlt x (by simp [hx]))) (fun x hx => hsp x (by simp [hx])))
        (trodAll_cons_mk (WideElems.Trod_stays (sp' := sp) Try.laidOut (by kernel_rfl) (of_decide_eq_true (by kernel_rfl)) h2 (fun x hx => hg.same (hlt x (by simp [hx]))) (fun x hx => hsp x (by simp [hx]))) (trodAll_mk0 (enc := enc) (P := Try.prog) (w := W') (base := 0) (spare := sp) (held := true))))
      rw [List.append_nil, List.nil_append] at hT
      exact hT) (fun _ _ => rfl) (by simp) hg (ok_one (by kernel_rfl) rfl (okWide_bool_mk Try.underlying4 _))⟩

theorem over : Rows.chainCutsRow.holds Try.pinned (OpenSpec.ofChange Rows.chainCutsSpec) :=
  OpenClaim.holds_of_wide 6 Try.f6 rfl rfl rfl rfl rfl rfl rfl ⟨rfl, rfl, rfl, rfl, rfl⟩ rfl rfl rfl rfl rfl (by kernel_rfl) Try.func6 (by kernel_rfl)
    (of_decide_eq_true (by kernel_rfl)) (by unfold Func.isWrapper; first | (rw [if_pos (by decide +kernel)]; kernel_rfl) | (rw [if_neg (by decide +kernel)]; exact ⟨rfl, rfl⟩))
    (fun os started H enc _ => lifted os started H enc)
end chainCuts
theorem chainCuts_holds : Rows.ChainCutsSaid := chainCuts.over
end Go.Proofs.Ythchppnfffllnaa
#print axioms Go.Proofs.Ythchppnfffllnaa.chainCuts_holds
