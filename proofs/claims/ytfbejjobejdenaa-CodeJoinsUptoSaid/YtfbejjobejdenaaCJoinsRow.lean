/- CodeJoins: where what it reads is of bulk at most 1048576 (the second form), the law returns true; its arguments read as they did. -/
import Derived.Test.YtfbejjobejdenaaCRows
import Derived.Test.YtfbejjobejdenaaPost
import Derived.JoinedCond
import Derived.Lib.SmallJoins
set_option linter.unusedVariables false
set_option linter.unusedSimpArgs false
namespace Go.Proofs.Ytfbejjobejdenaa
namespace codeJoins
open Go.Joins Go.ChangeShapes Go.WideShapes Go.ChangeAt Go.RowKit Go.Deep
theorem own : ownKnob Try.prog.godebug = none := by kernel_rfl
theorem cells25 : Try.prog.cellsOf 25 = 2 := by kernel_rfl
set_option maxRecDepth 100000 in
set_option maxHeartbeats 2000000 in
theorem contract (H : Type) (enc : TypeId × Value → H) (W : World) (base : Nat) (args : Array Value) (ds gs : List (DataW H)) (before : List MemPlace)
    (hval0 : ∀ (j : Nat) t v, Try.f4.params[j]? = some t → args[j]? = some v → Value.okWide Try.prog W .any base t v)
    (hW : DataW.Whole enc Try.prog Try.f4.params.toList Rows.codeJoinsSpec.vars false W args.toList ds gs before)
    (hk : Rows.uptoSmall H (ds ++ gs) = true) :
    Calls Try.prog 4 args W fun e W' => ∃ v, e = .returned v ∧ Rows.codeJoinsSpec.post enc Try.prog Try.f4 false true false false W args v W' := by
  have hval := hval0
  have hW' := hW
  obtain ⟨p, q, hA0, hV, rfl, hfz, hnd⟩ := hW
  have hA : DataW.TrodAll enc Try.prog W 0 (fun _ => true) true Try.f4.params.toList args.toList ds p := hA0
  rw [Try.params4] at hA hval
  obtain ⟨v0, vs0, d0, ds0, p0, q0, hargs, rfl, rfl, h0, r0⟩ := trodAll_cons hA
  obtain ⟨v1, vs1, d1, ds1, p1, q1, rfl, rfl, rfl, h1, r1⟩ := trodAll_cons r0
  obtain ⟨v2, vs2, d2, ds2, p2, q2, rfl, rfl, rfl, h2, r2⟩ := trodAll_cons r1
  obtain ⟨rfl, rfl, rfl⟩ := trodAll_nil r2
  obtain rfl : args = #[v0, v1, v2] := by cases args; simp_all
  obtain ⟨rfl, rfl⟩ := trodVars_none hV
  clear hA0 hval0
  simp only [List.append_nil] at hW' hk
  have hlt : ∀ x ∈ p0 ++ (p1 ++ p2), x.block < W.heap.size := fun x hx => hW'.lt x (by simpa using hx)
  have fin : Calls Try.prog 4 #[v0, v1, v2] W (fun (e : Ending) W' => e = .returned (.bool true) ∧ Below W.heap.size W W') := by
    obtain ⟨x0, x1, y0, y1, n, rfl, _, _, t0, t1⟩ := open_agg2 Try.underlying25 (by kernel_rfl) cells25 (hval 2 25 v2 rfl rfl) h2
    obtain ⟨k0, z0, _, e0⟩ := DataW.trod_int Try.underlying23 t0
    obtain ⟨k1, z1, _, e1⟩ := DataW.trod_int Try.underlying23 t1
    simp at z0 z1
    subst z0; subst z1
    obtain ⟨fu0, hf0⟩ := h0
    obtain ⟨fu1, hf1⟩ := h1
    obtain ⟨ad0, len0, cap0, rfl⟩ := okWide_slice Try.underlying22 (hval 0 22 v0 rfl rfl)
    obtain ⟨ad1, len1, cap1, rfl⟩ := okWide_slice Try.underlying22 (hval 1 22 v1 rfl rfl)
    have hk' : Rows.uptoBulkAll [d0, d1, d2] ≤ 1048576 := of_decide_eq_true hk
    simp only [Rows.uptoBulkAll] at hk'
    obtain ⟨l, rfl, rl, cl, bl, _⟩ := codeRows.open_ops (x := (d0, p0)) hf0
    obtain ⟨m, rfl, rm, cm, bm, _⟩ := codeRows.open_ops (x := (d1, p1)) hf1
    simp only at bl bm
    exact PCodeSays.joins_c rl rm cl cm (by omega) k0 k1
  refine fin.mono fun e W' ⟨he, hg⟩ => ?_
  subst he
  exact ⟨_, rfl, post_of_below (pa := p0 ++ (p1 ++ p2)) (pv := []) (ds := [d0, d1, d2]) (gs := []) (before := p0 ++ (p1 ++ p2)) (by simpa using hW') (fun _ _ _ => (trodAll_cons_mk (shut_bool Try.underlying4 _) trodAll_mk0))
    (fun sp hsp => by
      have hT := trodAll_cons_mk (WideElems.Trod_stays (sp' := sp) Try.laidOut (by kernel_rfl) (of_decide_eq_true (by kernel_rfl)) h0 (fun x hx => hg.same (hlt x (by simp [hx]))) (fun x hx => hsp x (by simp [hx])))
        (trodAll_cons_mk (WideElems.Trod_stays (sp' := sp) Try.laidOut (by kernel_rfl) (of_decide_eq_true (by kernel_rfl)) h1 (fun x hx => hg.same (hlt x (by simp [hx]))) (fun x hx => hsp x (by simp [hx])))
        (trodAll_cons_mk (WideElems.Trod_stays (sp' := sp) Try.laidOut (by kernel_rfl) (of_decide_eq_true (by kernel_rfl)) h2 (fun x hx => hg.same (hlt x (by simp [hx]))) (fun x hx => hsp x (by simp [hx]))) (trodAll_mk0 (enc := enc) (P := Try.prog) (w := W') (base := 0) (spare := sp) (held := true))))
      rw [List.append_nil] at hT
      exact hT) (fun _ _ => rfl) (by simp)
    hg (ok_one (by kernel_rfl) rfl (okWide_bool_mk Try.underlying4 _))⟩

set_option maxRecDepth 100000 in
theorem lifted (os : Os) (started : os.Started) (H : Type) (enc : TypeId × Value → H) (F : Stop.Interp) :
    ReturnsInHanded {} Try.checked os 4 .any ((Rows.OpenSpec.upto Rows.codeJoinsSpec).pre6 enc Try.prog Try.f4 Rows.codeJoinsUptoRow.domain false) (((Rows.OpenSpec.upto Rows.codeJoinsSpec).at F).post enc Try.prog Try.f4 false true false false) := by
  refine returnsInHanded_of_cond (C := Try.checked) (s := Rows.OpenSpec.upto Rows.codeJoinsSpec) (k := Rows.uptoSmall) rfl own started (by kernel_rfl) Try.func4
    (OpenSpec.witness (enc := enc) (C := Try.checked) (s := Rows.OpenSpec.upto Rows.codeJoinsSpec) (k := Rows.uptoSmall) rfl false ⟨#[], #[.slice none 0 0, .slice none 0 0, .agg #[.int .u64 0, .int .u64 0]], []⟩ 8 (by kernel_rfl) (by kernel_rfl) (by kernel_rfl)
      (x := ([.nil, .nil, .agg [.lit (.int .u64 0), .lit (.int .u64 0)]], [], [])) (by kernel_rfl) rfl (by kernel_rfl)) ?_
  intro W base args ds gs before hval hW _ hk _
  exact contract H enc W base args ds gs before hval hW hk
theorem over : Rows.codeJoinsUptoRow.holds Try.pinned (Rows.OpenSpec.upto Rows.codeJoinsSpec) :=
  OpenClaim.holds_of_cond 4 Try.f4 rfl rfl rfl rfl rfl rfl rfl ⟨rfl, rfl, rfl, rfl, rfl⟩ rfl rfl rfl rfl rfl (by kernel_rfl) Try.func4 (by kernel_rfl)
    (of_decide_eq_true (by kernel_rfl)) (by unfold Func.isWrapper; first | (rw [if_pos (by decide +kernel)]; kernel_rfl) | (rw [if_neg (by decide +kernel)]; exact ⟨rfl, rfl⟩))
    (fun os started H enc _ F => lifted os started H enc F)
end codeJoins
theorem codeJoinsUpto_holds : Rows.CodeJoinsUptoSaid := codeJoins.over
end Go.Proofs.Ytfbejjobejdenaa
#print axioms Go.Proofs.Ytfbejjobejdenaa.codeJoinsUpto_holds
