/- CodeSays: for every case the law returns true; its argument reads as it did. No condition. -/
import Derived.Test.YtfbejjobejdenaaCRows
import Derived.Test.YtfbejjobejdenaaCSays2
import Derived.Test.YtfbejjobejdenaaPost
import Derived.SizedLaws
import Derived.ChangeSame
import Derived.Lib.SmallJoins
set_option linter.unusedVariables false
set_option linter.unusedSimpArgs false
namespace Go.Proofs.Ytfbejjobejdenaa
namespace codeSays
open Go.Joins Go.ChangeShapes Go.WideShapes Go.ChangeAt Go.RowKit Go.Deep
theorem own : ownKnob Try.prog.godebug = none := by kernel_rfl
theorem cells25 : Try.prog.cellsOf 25 = 2 := by kernel_rfl
theorem cells27 : Try.prog.cellsOf 27 = 5 := by kernel_rfl
theorem cells22 : Try.prog.cellsOf 22 = 1 := by kernel_rfl
theorem cells3 : Try.prog.cellsOf 3 = 1 := by kernel_rfl
theorem bytes29 : Try.prog.bytesOf 29 = 16 := by kernel_rfl
theorem slice_shape {H : Type} {enc : TypeId × Value → H} {W : World} {base : Nat} {sp : Nat → Bool} {v : Value} {fuel : Nat} {x : DataW H × List MemPlace}
    (hf : DataW.trod enc Try.prog W base sp true fuel 22 [v] = some x) : ∃ ad len cap, v = .slice ad len cap := by
  rcases codeRows.open_slice_fields Try.underlying22 Try.underlying29 (by kernel_rfl) Try.cells29 hf with ⟨hcs, hx⟩ | ⟨a, len', cap', m, D, Pl, hcs, _⟩
  · simp at hcs; exact ⟨_, _, _, hcs⟩
  · simp at hcs; exact ⟨_, _, _, hcs⟩
set_option maxRecDepth 100000 in
set_option maxHeartbeats 2000000 in
theorem lifted (os : Os) (started : os.Started) (H : Type) (enc : TypeId × Value → H) :
    ReturnsInHanded {} Try.checked os 3 .any (Rows.codeSaysSpec.pre6 enc Try.prog Try.f3 Rows.codeSaysRow.domain false) (Rows.codeSaysSpec.post enc Try.prog Try.f3 false true false false) := by
  refine returnsInHanded_of_change_sized (C := Try.checked) own started (by kernel_rfl) Try.func3
    (ChangeSpec.witness6 (enc := enc) (C := Try.checked) false ⟨#[], #[.agg #[.int .i64 0, .slice none 0 0, .slice none 0 0, .int .u64 0, .int .u64 0]], []⟩ 8 (by kernel_rfl) (by kernel_rfl) (by kernel_rfl) (by kernel_rfl)) ?_
  intro W base args ds gs before hval0 hW _ hsz0 _
  have hsz : (DataW.weightsEach Try.prog (Try.f3.params.toList ++ Rows.codeSaysSpec.plain.varTypes Try.prog) (ds ++ gs)).all (· ≤ reachBytes) = true := hsz0
  clear hsz0
  have hval : ∀ (j : Nat) t v, Try.f3.params[j]? = some t → args[j]? = some v → Value.okWide Try.prog W .any base t v := hval0
  have hW' := hW
  obtain ⟨p, q, hA0, hV, rfl, hfz, hnd⟩ := hW
  have hA : DataW.TrodAll enc Try.prog W 0 (fun _ => true) true Try.f3.params.toList args.toList ds p := hA0
  rw [Try.params3] at hA hval hsz
  obtain ⟨v0, vs0, d0, ds0, p0, q0, hargs, rfl, rfl, h0, r0⟩ := trodAll_cons hA
  obtain ⟨rfl, rfl, rfl⟩ := trodAll_nil r0
  obtain rfl : args = #[v0] := by cases args; simp_all
  obtain ⟨rfl, rfl⟩ := trodVars_none hV
  clear hA0 hval0
  simp only [List.append_nil, List.nil_append] at hW'
  have hlt : ∀ x ∈ p0, x.block < W.heap.size := fun x hx => hW'.lt x (by simpa using hx)
  have fin : Calls Try.prog 3 #[v0] W (fun (e : Ending) W' => e = .returned (.bool true) ∧ Below W.heap.size W W') := by
    obtain ⟨cs, rfl, hcs⟩ := okWide_struct Try.underlying27 (hval 0 27 v0 rfl rfl)
    rw [cells27] at hcs
    obtain ⟨fuel, hf⟩ := h0
    obtain ⟨xs, n, _, hx, _, hxl, hfi⟩ := DataW.trod_struct Try.underlying27 hf
    obtain ⟨c0, c1, c2, c3, c4, rfl⟩ : ∃ a b c d e, cs = #[a, b, c, d, e] := by
      obtain ⟨l⟩ := cs
      rcases l with _ | ⟨a, _ | ⟨b, _ | ⟨c, _ | ⟨d, _ | ⟨e, _ | ⟨f, l⟩⟩⟩⟩⟩⟩ <;> simp at hcs
      exact ⟨a, b, c, d, e, rfl⟩
    obtain ⟨y0, y1, y2, y3, rfl⟩ : ∃ a b c d, xs = [a, b, c, d] := by
      rcases xs with _ | ⟨a, _ | ⟨b, _ | ⟨c, _ | ⟨d, _ | ⟨e, l⟩⟩⟩⟩⟩ <;> simp at hxl
      exact ⟨a, b, c, d, rfl⟩
    have t0 := hfi 0 _ rfl
    have t1 := hfi 1 _ rfl
    have t2 := hfi 2 _ rfl
    have t3 := hfi 3 _ rfl
    simp [cells3, cells22, cells25, Value.cells] at t0 t1 t2 t3
    obtain ⟨k0, z0, _, e0⟩ := DataW.trod_int Try.underlying3 t0
    simp at z0
    subst z0
    obtain ⟨ad1, len1, cap1, rfl⟩ := slice_shape t1
    obtain ⟨ad2, len2, cap2, rfl⟩ := slice_shape t2
    obtain ⟨l, rfl, rl, cl, _, bl⟩ := codeRows.open_ops t1
    obtain ⟨t, rfl, rt, ct, _, _⟩ := codeRows.open_ops t2
    obtain ⟨u0, u1, n', hxx, _, s0, s1⟩ := trod_struct2 Try.underlying25 t3
    simp [cells25, show Try.prog.cellsOf 23 = 1 from by kernel_rfl] at s0 s1
    obtain ⟨ka, za, _, _⟩ := DataW.trod_int Try.underlying23 s0
    obtain ⟨kb, zb, _, _⟩ := DataW.trod_int Try.underlying23 s1
    simp at za zb
    subst za; subst zb
    have hb : l.length * 16 ≤ reachBytes := by
      rcases bl with ⟨Ds, Es, h1, h2⟩ | rfl
      · have hd : d0 = .agg [y0.1, y1.1, y2.1, y3.1] := by simp at hx; exact hx.1
        have := List.all_eq_true.1 hsz ((Ds.length + Es.length) * Try.prog.bytesOf 29) (DataW.weights_mem_each (j := 0) (t := 27) (d := d0) rfl rfl _ (by
          rw [hd]
          simp only [DataW.weights, Try.underlying27]
          refine DataW.weights_mem_each (j := 1) (t := 22) (d := y1.1) rfl rfl _ ?_
          rw [h1]
          simp [DataW.weights, Try.underlying22]))
        rw [bytes29] at this
        simp at this
        omega
      · simp [reachBytes]
    have hr : reachBytes = 140737488351232 := rfl
    exact PCodeSays.Says.says_c rl rt cl ct (by omega) k0 ka kb
  refine fin.mono fun e W' ⟨he, hg⟩ => ?_
  subst he
  exact ⟨_, rfl, post_of_below (pa := p0) (pv := []) (ds := [d0]) (gs := []) (before := p0) (by simpa using hW') (fun _ _ _ => (trodAll_cons_mk (shut_bool Try.underlying4 _) trodAll_mk0))
    (fun sp hsp => by
      have hT := trodAll_cons_mk (WideElems.Trod_stays (sp' := sp) Try.laidOut (by kernel_rfl) (of_decide_eq_true (by kernel_rfl)) h0 (fun x hx => hg.same (hlt x hx)) (fun x hx => hsp x hx)) (trodAll_mk0 (enc := enc) (P := Try.prog) (w := W') (base := 0) (spare := sp) (held := true))
      rw [List.append_nil] at hT
      exact hT) (fun _ _ => rfl) (by simp) hg (ok_one (by kernel_rfl) rfl (okWide_bool_mk Try.underlying4 _))⟩

theorem over : Rows.codeSaysRow.holds Try.pinned (OpenSpec.ofChange Rows.codeSaysSpec) :=
  OpenClaim.holds_of_wide 3 Try.f3 rfl rfl rfl rfl rfl rfl rfl ⟨rfl, rfl, rfl, rfl, rfl⟩ rfl rfl rfl rfl rfl (by kernel_rfl) Try.func3 (by kernel_rfl)
    (of_decide_eq_true (by kernel_rfl)) (by unfold Func.isWrapper; first | (rw [if_pos (by decide +kernel)]; kernel_rfl) | (rw [if_neg (by decide +kernel)]; exact ⟨rfl, rfl⟩))
    (fun os started H enc _ => lifted os started H enc)
end codeSays
theorem codeSays_holds : Rows.CodeSaysSaid := codeSays.over
end Go.Proofs.Ytfbejjobejdenaa
#print axioms Go.Proofs.Ytfbejjobejdenaa.codeSays_holds
