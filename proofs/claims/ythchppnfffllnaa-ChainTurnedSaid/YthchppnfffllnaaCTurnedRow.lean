/- ChainTurned: for every list and picks the law returns true; its arguments read as they did. No condition. -/
import Derived.Test.YthchppnfffllnaaCRows
import Derived.Test.YthchppnfffllnaaCPTurned
import Derived.ChangeSlices
import Derived.Test.YthchppnfffllnaaPost
import Derived.SizedLaws
import Derived.ChangeSame
import Derived.Lib.SmallJoins
set_option linter.unusedVariables false
set_option linter.unusedSimpArgs false
namespace Go.Proofs.Ythchppnfffllnaa
namespace chainTurned
open Go.Joins Go.ChangeShapes Go.WideShapes Go.ChangeAt Go.RowKit Go.Deep
theorem own : ownKnob Try.prog.godebug = none := by kernel_rfl
set_option maxRecDepth 100000 in
set_option maxHeartbeats 2000000 in
theorem lifted (os : Os) (started : os.Started) (H : Type) (enc : TypeId × Value → H) :
    ReturnsInHanded {} Try.checked os 5 .any (Rows.chainTurnedSpec.pre6 enc Try.prog Try.f5 Rows.chainTurnedRow.domain false) (Rows.chainTurnedSpec.post enc Try.prog Try.f5 false true false false) := by
  refine returnsInHanded_of_change_sized (C := Try.checked) own started (by kernel_rfl) Try.func5
    (ChangeSpec.witness6 (enc := enc) (C := Try.checked) false ⟨#[], #[.slice none 0 0, .slice none 0 0], []⟩ 8 (by kernel_rfl) (by kernel_rfl) (by kernel_rfl) (by kernel_rfl)) ?_
  intro W base args ds gs before hval0 hW _ hsz0 _
  have hsz : (DataW.weightsEach Try.prog (Try.f5.params.toList ++ Rows.chainTurnedSpec.plain.varTypes Try.prog) (ds ++ gs)).all (· ≤ reachBytes) = true := hsz0
  clear hsz0
  have hval : ∀ (j : Nat) t v, Try.f5.params[j]? = some t → args[j]? = some v → Value.okWide Try.prog W .any base t v := hval0
  have hW' := hW
  obtain ⟨p, q, hA0, hV, rfl, hfz, hnd⟩ := hW
  have hA : DataW.TrodAll enc Try.prog W 0 (fun _ => true) true Try.f5.params.toList args.toList ds p := hA0
  rw [Try.params5] at hA hval hsz
  obtain ⟨v0, vs0, d0, ds0, p0, q0, hargs, rfl, rfl, h0, r0⟩ := trodAll_cons hA
  obtain ⟨v1, vs1, d1, ds1, p1, q1, rfl, rfl, rfl, h1, r1⟩ := trodAll_cons r0
  obtain ⟨rfl, rfl, rfl⟩ := trodAll_nil r1
  obtain rfl : args = #[v0, v1] := by cases args; simp_all
  obtain ⟨rfl, rfl⟩ := trodVars_none hV
  clear hA0 hval0
  simp only [List.append_nil, List.nil_append] at hW'
  have hlt : ∀ x ∈ p0 ++ p1, x.block < W.heap.size := fun x hx => hW'.lt x (by simpa using hx)
  have fin : Calls Try.prog 5 #[v0, v1] W (fun (e : Ending) W' => e = .returned (.bool true) ∧ Below W.heap.size W W') := by
    obtain ⟨fuel, hf⟩ := h0
    obtain ⟨fuel1, hf1⟩ := h1
    obtain ⟨ad, len, cap, rfl⟩ := okWide_slice Try.underlying29 (hval 0 29 v0 rfl rfl)
    obtain ⟨ad1, len1, cap1, rfl⟩ := okWide_slice Try.underlying51 (hval 1 51 v1 rfl rfl)
    obtain ⟨l, hl, rl, hc, bl, _⟩ := chainRows.open_pairs (x := (d0, p0)) hf
    have hb : len * 16 ≤ reachBytes := by
      rcases bl with ⟨Ds, Es, h3, h4⟩ | h3
      · simp only at h3
        subst h3
        have := sized_slice hsz (j := 0) rfl rfl Try.underlying29
        rw [Try.bytes35] at this
        omega
      · simp [h3, reachBytes]
    have hr : reachBytes = 140737488351232 := rfl
    have key : ∃ ps : List Int, Reads W W.heap.size 1 ad1 len1 (ps.map (fun p => Value.int .i64 p)) ∧ len1 = ps.length ∧ len1 ≤ cap1 ∧ (0 < len1 → ∃ b off, ad1 = some ⟨b, off, none⟩) := by
      rcases open_ints Try.underlying51 Try.underlying3 (by kernel_rfl) hf1 with ⟨hcs, hx⟩ | ⟨a, len', cap', zs, hcs, _, hl1, hm1, hz1, hx, hcell, _⟩
      · simp [Value.cells] at hcs
        obtain ⟨rfl, rfl, rfl⟩ := hcs
        exact ⟨[], ⟨by simp, fun h => absurd h (by omega)⟩, rfl, by omega, fun h => absurd h (by omega)⟩
      · simp [Value.cells] at hcs
        obtain ⟨rfl, rfl, rfl⟩ := hcs
        simp only [if_true] at hz1
        have hlen : (zs.take len1).length = len1 := by simp; omega
        refine ⟨zs.take len1, ⟨by simp; omega, fun hp => ?_⟩, hlen.symm, hl1, fun hp => ?_⟩
        · refine ⟨a, rfl, ?_, fun j u hu => ?_⟩
          · have h0 := hcell 0 (by omega)
            have h9 := World.block_lt_of_cell? W _ h0
            rwa [block_of_add] at h9
          · have hj : j < len1 := by have := (List.getElem?_eq_some_iff.1 hu).1; simp at this; omega
            have h1 := hcell j (by omega)
            rw [h1]
            simp only [List.getElem?_map, List.getElem?_take_of_lt hj] at hu
            have hjz : j < zs.length := by omega
            simp [hjz] at hu
            simp [List.getD, hjz, hu]
        · have h0 := hcell 0 (by omega)
          obtain ⟨b, off, rfl⟩ := chainRows.addr_plain h0
          exact ⟨b, off, rfl⟩
    obtain ⟨ps, rp, hp, hpc, hpa⟩ := key
    exact CP.turned_c rl hl (by omega) hc rp hp hpc hpa
  refine fin.mono fun e W' ⟨he, hg⟩ => ?_
  subst he
  exact ⟨_, rfl, post_of_below (pa := p0 ++ p1) (pv := []) (ds := [d0, d1]) (gs := []) (before := p0 ++ p1) (by simpa using hW') (fun _ _ _ => (trodAll_cons_mk (shut_bool Try.underlying4 _) trodAll_mk0))
    (fun sp hsp => by
      have hT := trodAll_cons_mk (WideElems.Trod_stays (sp' := sp) Try.laidOut (by kernel_rfl) (of_decide_eq_true (by kernel_rfl)) h0 (fun x hx => hg.same (hlt x (by simp [hx]))) (fun x hx => hsp x (by simp [hx])))
        (trodAll_cons_mk (WideElems.Trod_stays (sp' := sp) Try.laidOut (by kernel_rfl) (of_decide_eq_true (by kernel_rfl)) h1 (fun x hx => hg.same (hlt x (by simp [hx]))) (fun x hx => hsp x (by simp [hx]))) (trodAll_mk0 (enc := enc) (P := Try.prog) (w := W') (base := 0) (spare := sp) (held := true)))
      rw [List.append_nil] at hT
      exact hT) (fun _ _ => rfl) (by simp) hg (ok_one (by kernel_rfl) rfl (okWide_bool_mk Try.underlying4 _))⟩

theorem over : Rows.chainTurnedRow.holds Try.pinned (OpenSpec.ofChange Rows.chainTurnedSpec) :=
  OpenClaim.holds_of_wide 5 Try.f5 rfl rfl rfl rfl rfl rfl rfl ⟨rfl, rfl, rfl, rfl, rfl⟩ rfl rfl rfl rfl rfl (by kernel_rfl) Try.func5 (by kernel_rfl)
    (of_decide_eq_true (by kernel_rfl)) (by unfold Func.isWrapper; first | (rw [if_pos (by decide +kernel)]; kernel_rfl) | (rw [if_neg (by decide +kernel)]; exact ⟨rfl, rfl⟩))
    (fun os started H enc _ => lifted os started H enc)
end chainTurned
theorem chainTurned_holds : Rows.ChainTurnedSaid := chainTurned.over
end Go.Proofs.Ythchppnfffllnaa
#print axioms Go.Proofs.Ythchppnfffllnaa.chainTurned_holds
