/- FlowGoes: for every node, time and record the law returns true; its arguments read as they did. No condition. -/
import Derived.Test.YtfbejjobejdenaaFGoes2
import Derived.Test.YtfbejjobejdenaaFGoes3
import Derived.Test.YtfbejjobejdenaaFGoes4
import Derived.Test.YtfbejjobejdenaaCRows
import Derived.Test.YtfbejjobejdenaaPost
import Derived.SizedLaws
import Derived.ChangeSame
import Derived.Lib.SmallJoins
set_option linter.unusedVariables false
set_option linter.unusedSimpArgs false
namespace Go.Proofs.Ytfbejjobejdenaa
namespace PCodeSays
open Go.RowKit Go.Proofs.YtfbejjobejdenaaW.PrintWords Go.Proofs.YtfbejjobejdenaaW.PrintLast Go.Proofs.YtfbejjobejdenaaW.PrintMore
theorem goes_c {w : World} {A : Option Addr} {c : Nat} {l : List S29} (hr : Row w A l) (hc : l.length ≤ c) (kind ins outs pa pb pc bd : Int) (cv : Value) (st : Bool) (h1 : cv.oneCell' = true) (ta tb tc a b : Int) (hp : T3.ok ⟨pa, pb, pc⟩) (ht : T3.ok ⟨ta, tb, tc⟩) :
    Calls Try.prog 7 #[nodeV kind ins outs A l.length c ⟨pa, pb, pc⟩ bd cv st, .agg #[.int .u64 ta, .int .u64 tb, .int .u64 tc], .agg #[.int .u64 a, .int .u64 b]] w fun e w' => e = .returned (.bool true) ∧ Below w.heap.size w w' := by
  by_cases hE : newE kind l = 0
  · by_cases k2 : kind = 2
    · subst k2
      exact goes_map hr hc ins outs pa pb pc bd cv st h1 ta tb tc a b (by simpa [newE] using hE) _ _ rfl
    · by_cases k3 : kind = 3
      · subst k3
        have hz : chk 3 l = 0 := by simpa [newE] using hE
        cases hm : passP l (a, b)
        · exact goes_ff hr hc ins outs pa pb pc bd cv st h1 ta tb tc a b hz hm
        · exact goes_ft hr hc ins outs pa pb pc bd cv st h1 ta tb tc a b hz hm
      · by_cases k4 : kind = 4
        · subst k4
          exact goes_join hr hc ins outs pa pb pc bd cv st h1 ta tb tc a b
        · by_cases k5 : kind = 5
          · subst k5
            by_cases hf : T3.fits ⟨pa, pb, pc⟩ ⟨ta, tb, tc⟩
            · by_cases hl : loopOk ⟨pa, pb, pc⟩ ⟨ta, tb, tc⟩ bd
              · exact goes_yes hr hc ins outs pa pb pc bd cv st h1 ta tb tc a b hp ht hf hl
              · exact goes_no hr hc ins outs pa pb pc bd cv st h1 ta tb tc a b hp ht hf hl
            · exact goes_over hr hc ins outs pa pb pc bd cv st h1 ta tb tc a b hp ht hf
          · simp [newE, k2, k3, k4, k5] at hE
  · exact goes_err hr hc kind ins outs pa pb pc bd cv st h1 ta tb tc a b hE
end PCodeSays
namespace flowRows
open Go.Joins Go.ChangeShapes Go.WideShapes Go.ChangeAt Go.RowKit Go.Deep
theorem own : ownKnob Try.prog.godebug = none := by kernel_rfl
theorem cells25 : Try.prog.cellsOf 25 = 2 := by kernel_rfl
theorem cells58 : Try.prog.cellsOf 58 = 3 := by kernel_rfl
theorem cells44 : Try.prog.cellsOf 44 = 3 := by kernel_rfl
theorem cells47 : Try.prog.cellsOf 47 = 10 := by kernel_rfl
theorem cells22 : Try.prog.cellsOf 22 = 1 := by kernel_rfl
theorem cells23 : Try.prog.cellsOf 23 = 1 := by kernel_rfl
theorem cells45 : Try.prog.cellsOf 45 = 1 := by kernel_rfl
theorem cells4 : Try.prog.cellsOf 4 = 1 := by kernel_rfl
theorem cells3 : Try.prog.cellsOf 3 = 1 := by kernel_rfl
theorem slice_shape {H : Type} {enc : TypeId × Value → H} {W : World} {base : Nat} {sp : Nat → Bool} {v : Value} {fuel : Nat} {x : DataW H × List MemPlace}
    (hf : DataW.trod enc Try.prog W base sp true fuel 22 [v] = some x) : ∃ ad len cap, v = .slice ad len cap := by
  rcases codeRows.open_slice_fields Try.underlying22 Try.underlying29 (by kernel_rfl) Try.cells29 hf with ⟨hcs, hx⟩ | ⟨a, len', cap', m, D, Pl, hcs, _⟩
  · simp at hcs; exact ⟨_, _, _, hcs⟩
  · simp at hcs; exact ⟨_, _, _, hcs⟩
theorem u64_of {n : Int} (h : (Lit.int .u64 n).wf = true) : 0 ≤ n ∧ n < 18446744073709551616 := by
  have := h
  simp [Lit.wf] at this
  have h0 : IntKind.u64.min = 0 := by decide
  have h1 : IntKind.u64.max = 18446744073709551615 := by decide
  omega
section
variable {H : Type} {enc : TypeId × Value → H} {W : World} {base : Nat} {sp : Nat → Bool}
theorem open_three {T : TypeId} {f0 f1 f2 : Field} (hu : Try.prog.underlying T = some (.struct #[f0, f1, f2])) (h0 : f0.type = 23 ∧ f0.offset = 0) (h1 : f1.type = 23 ∧ f1.offset = 1) (h2 : f2.type = 23 ∧ f2.offset = 2) (hC : Try.prog.cellsOf T = 3)
    {fuel : Nat} {cs : List Value} {x : DataW H × List MemPlace} (hf : DataW.trod enc Try.prog W base sp true fuel T cs = some x) : ∃ t : PCodeSays.T3, t.ok ∧ cs = [.int .u64 t.a, .int .u64 t.b, .int .u64 t.c] := by
  obtain ⟨xs, n, _, hx, hl, hxl, hfi⟩ := DataW.trod_struct hu hf
  rw [hC] at hl
  obtain ⟨c0, c1, c2, rfl⟩ : ∃ a b c, cs = [a, b, c] := by
    rcases cs with _ | ⟨a, _ | ⟨b, _ | ⟨c, _ | ⟨d, l⟩⟩⟩⟩ <;> simp at hl
    exact ⟨a, b, c, rfl⟩
  obtain ⟨y0, y1, y2, rfl⟩ : ∃ a b c, xs = [a, b, c] := by
    rcases xs with _ | ⟨a, _ | ⟨b, _ | ⟨c, _ | ⟨d, l⟩⟩⟩⟩ <;> simp at hxl
    exact ⟨a, b, c, rfl⟩
  have t0 := hfi 0 f0 rfl
  have t1 := hfi 1 f1 rfl
  have t2 := hfi 2 f2 rfl
  rw [h0.1, h0.2] at t0
  rw [h1.1, h1.2] at t1
  rw [h2.1, h2.2] at t2
  simp [cells23] at t0 t1 t2
  obtain ⟨a, za, _, wa⟩ := DataW.trod_int Try.underlying23 t0
  obtain ⟨b, zb, _, wb⟩ := DataW.trod_int Try.underlying23 t1
  obtain ⟨c, zc, _, wc⟩ := DataW.trod_int Try.underlying23 t2
  simp at za zb zc
  subst za; subst zb; subst zc
  exact ⟨⟨a, b, c⟩, ⟨u64_of wa, u64_of wb, u64_of wc⟩, rfl⟩
/-- A node read. -/
theorem open_node {fuel : Nat} {cs : List Value} {x : DataW H × List MemPlace} (hf : DataW.trod enc Try.prog W base sp true fuel 47 cs = some x) :
    ∃ (kind ins outs : Int) (A : Option Addr) (c : Nat) (l : List PCodeSays.S29) (p : PCodeSays.T3) (bd : Int) (cv : Value) (st : Bool), cs = [.int .i64 kind, .int .i64 ins, .int .i64 outs, .slice A l.length c, .int .u64 p.a, .int .u64 p.b, .int .u64 p.c, .int .u64 bd, cv, .bool st] ∧
      PCodeSays.Row W A l ∧ l.length ≤ c ∧ p.ok ∧ (0 ≤ bd ∧ bd < 18446744073709551616) ∧ cv.oneCell' = true ∧ ∃ D0 D1 D2 D3 D4 D5 D6 D7, x.1 = .agg [D0, D1, D2, D3, D4, D5, D6, D7] ∧ l.length ≤ Rows.uptoBulk D3 ∧ ((∃ Ds Es, D3 = .slice Ds Es ∧ Ds.length = l.length) ∨ l = []) := by
  obtain ⟨xs, n, _, hx, hl, hxl, hfi⟩ := DataW.trod_struct Try.underlying47 hf
  rw [cells47] at hl
  obtain ⟨c0, c1, c2, c3, c4, c5, c6, c7, c8, c9, rfl⟩ : ∃ c0 c1 c2 c3 c4 c5 c6 c7 c8 c9, cs = [c0, c1, c2, c3, c4, c5, c6, c7, c8, c9] := by
    rcases cs with _ | ⟨c0, _ | ⟨c1, _ | ⟨c2, _ | ⟨c3, _ | ⟨c4, _ | ⟨c5, _ | ⟨c6, _ | ⟨c7, _ | ⟨c8, _ | ⟨c9, _ | ⟨c10, l⟩⟩⟩⟩⟩⟩⟩⟩⟩⟩⟩ <;> simp at hl
    exact ⟨c0, c1, c2, c3, c4, c5, c6, c7, c8, c9, rfl⟩
  obtain ⟨y0, y1, y2, y3, y4, y5, y6, y7, rfl⟩ : ∃ y0 y1 y2 y3 y4 y5 y6 y7, xs = [y0, y1, y2, y3, y4, y5, y6, y7] := by
    rcases xs with _ | ⟨c0, _ | ⟨c1, _ | ⟨c2, _ | ⟨c3, _ | ⟨c4, _ | ⟨c5, _ | ⟨c6, _ | ⟨c7, _ | ⟨c8, l⟩⟩⟩⟩⟩⟩⟩⟩⟩ <;> simp at hxl
    exact ⟨c0, c1, c2, c3, c4, c5, c6, c7, rfl⟩
  have t0 := hfi 0 _ rfl
  have t1 := hfi 1 _ rfl
  have t2 := hfi 2 _ rfl
  have t3 := hfi 3 _ rfl
  have t4 := hfi 4 _ rfl
  have t5 := hfi 5 _ rfl
  have t6 := hfi 6 _ rfl
  have t7 := hfi 7 _ rfl
  simp [cells3, cells22, cells23, cells44, cells45, cells4] at t0 t1 t2 t3 t4 t5 t6 t7
  obtain ⟨k0, z0, _, _⟩ := DataW.trod_int Try.underlying3 t0
  obtain ⟨k1, z1, _, _⟩ := DataW.trod_int Try.underlying3 t1
  obtain ⟨k2, z2, _, _⟩ := DataW.trod_int Try.underlying3 t2
  obtain ⟨ad, len, cap, rfl⟩ := slice_shape t3
  obtain ⟨l, rfl, rl, cl, bu, bl⟩ := codeRows.open_ops t3
  obtain ⟨p, hp, z4⟩ := open_three Try.underlying44 ⟨rfl, rfl⟩ ⟨rfl, rfl⟩ ⟨rfl, rfl⟩ cells44 t4
  obtain ⟨bd, z5, _, wb⟩ := DataW.trod_int Try.underlying23 t5
  obtain ⟨st, z7, _⟩ := DataW.trod_bool Try.underlying4 t7
  have h6 : c8.oneCell' = true := by
    rcases open_slice Try.underlying45 t6 with ⟨h, _⟩ | ⟨a, len, cap, m, n, D, Pl, h, _⟩
    · simp at h; subst h; rfl
    · simp at h; subst h; rfl
  simp at z0 z1 z2 z4 z5 z7
  obtain ⟨z4, z4', z4''⟩ := z4
  subst z0; subst z1; subst z2; subst z4; subst z4'; subst z4''; subst z5; subst z7
  refine ⟨k0, k1, k2, ad, cap, l, p, bd, c8, st, rfl, rl, cl, hp, u64_of wb, h6, y0.1, y1.1, y2.1, y3.1, y4.1, y5.1, y6.1, y7.1, by rw [hx]; rfl, bu, bl⟩
end
end flowRows
namespace flowGoes
open Go.Joins Go.ChangeShapes Go.WideShapes Go.ChangeAt Go.RowKit Go.Deep
set_option maxRecDepth 100000 in
set_option maxHeartbeats 2000000 in
theorem lifted (os : Os) (started : os.Started) (H : Type) (enc : TypeId × Value → H) :
    ReturnsInHanded {} Try.checked os 7 .any (Rows.flowGoesSpec.pre6 enc Try.prog Try.f7 Rows.flowGoesRow.domain false) (Rows.flowGoesSpec.post enc Try.prog Try.f7 false true false false) := by
  refine returnsInHanded_of_change (C := Try.checked) flowRows.own started (by kernel_rfl) Try.func7
    (ChangeSpec.witness6 (enc := enc) (C := Try.checked) false ⟨#[], #[.agg #[.int .i64 0, .int .i64 0, .int .i64 0, .slice none 0 0, .int .u64 0, .int .u64 0, .int .u64 0, .int .u64 0, .slice none 0 0, .bool false], .agg #[.int .u64 0, .int .u64 0, .int .u64 0], .agg #[.int .u64 0, .int .u64 0]], []⟩ 8 (by kernel_rfl) (by kernel_rfl) (by kernel_rfl) (by kernel_rfl)) ?_
  intro W base args ds gs before hval0 hW _ _
  have hval : ∀ (j : Nat) t v, Try.f7.params[j]? = some t → args[j]? = some v → Value.okWide Try.prog W .any base t v := hval0
  have hW' := hW
  obtain ⟨p, q, hA0, hV, rfl, hfz, hnd⟩ := hW
  have hA : DataW.TrodAll enc Try.prog W 0 (fun _ => true) true Try.f7.params.toList args.toList ds p := hA0
  rw [Try.params7] at hA hval
  obtain ⟨v0, vs0, d0, ds0, p0, q0, hargs, rfl, rfl, h0, r0⟩ := trodAll_cons hA
  obtain ⟨v1, vs1, d1, ds1, p1, q1, rfl, rfl, rfl, h1, r1⟩ := trodAll_cons r0
  obtain ⟨v2, vs2, d2, ds2, p2, q2, rfl, rfl, rfl, h2, r2⟩ := trodAll_cons r1
  obtain ⟨rfl, rfl, rfl⟩ := trodAll_nil r2
  obtain rfl : args = #[v0, v1, v2] := by cases args; simp_all
  obtain ⟨rfl, rfl⟩ := trodVars_none hV
  clear hA0 hval0
  simp only [List.append_nil, List.nil_append] at hW'
  have hlt : ∀ x ∈ p0 ++ (p1 ++ p2), x.block < W.heap.size := fun x hx => hW'.lt x (by simpa using hx)
  have fin : Calls Try.prog 7 #[v0, v1, v2] W (fun (e : Ending) W' => e = .returned (.bool true) ∧ Below W.heap.size W W') := by
    obtain ⟨cs0, rfl, hcs0⟩ := okWide_struct Try.underlying47 (hval 0 47 v0 rfl rfl)
    obtain ⟨cs1, rfl, hcs1⟩ := okWide_struct Try.underlying58 (hval 1 58 v1 rfl rfl)
    obtain ⟨cs2, rfl, hcs2⟩ := okWide_struct Try.underlying25 (hval 2 25 v2 rfl rfl)
    obtain ⟨fuel0, f0⟩ := h0
    obtain ⟨fuel1, f1⟩ := h1
    obtain ⟨fuel2, f2⟩ := h2
    obtain ⟨kind, ins, outs, A, c, l, pp, bd, cv, st, e0, rl, cl, hp, _, hcv, _⟩ := flowRows.open_node f0
    obtain ⟨tt, ht, e1⟩ := flowRows.open_three Try.underlying58 ⟨rfl, rfl⟩ ⟨rfl, rfl⟩ ⟨rfl, rfl⟩ flowRows.cells58 f1
    obtain ⟨u0, u1, n', hxx, hl2, s0, s1⟩ := trod_struct2 Try.underlying25 f2
    rw [flowRows.cells25] at hl2
    obtain ⟨l0⟩ := cs0
    obtain ⟨l1⟩ := cs1
    obtain ⟨l2⟩ := cs2
    simp only [Value.cells] at e0 e1
    simp only [Value.cells] at hl2 s0 s1
    obtain ⟨c0, c1, rfl⟩ : ∃ a b, l2 = [a, b] := by
      rcases l2 with _ | ⟨a, _ | ⟨b, _ | ⟨c, l⟩⟩⟩ <;> simp at hl2
      exact ⟨a, b, rfl⟩
    simp [flowRows.cells23] at s0 s1
    obtain ⟨ka, za, _, _⟩ := DataW.trod_int Try.underlying23 s0
    obtain ⟨kb, zb, _, _⟩ := DataW.trod_int Try.underlying23 s1
    simp at za zb
    subst za; subst zb; subst e0; subst e1
    exact PCodeSays.goes_c rl cl kind ins outs pp.a pp.b pp.c bd cv st hcv tt.a tt.b tt.c ka kb hp ht
  refine fin.mono fun e W' ⟨he, hg⟩ => ?_
  subst he
  exact ⟨_, rfl, post_of_below (pa := p0 ++ (p1 ++ p2)) (pv := []) (ds := [d0, d1, d2]) (gs := []) (before := p0 ++ (p1 ++ p2)) (by simpa using hW') (fun _ _ _ => (trodAll_cons_mk (shut_bool Try.underlying4 _) trodAll_mk0))
    (fun sp hsp => by
      have hT := trodAll_cons_mk (WideElems.Trod_stays (sp' := sp) Try.laidOut (by kernel_rfl) (of_decide_eq_true (by kernel_rfl)) h0 (fun x hx => hg.same (hlt x (by simp [hx]))) (fun x hx => hsp x (by simp [hx])))
        (trodAll_cons_mk (WideElems.Trod_stays (sp' := sp) Try.laidOut (by kernel_rfl) (of_decide_eq_true (by kernel_rfl)) h1 (fun x hx => hg.same (hlt x (by simp [hx]))) (fun x hx => hsp x (by simp [hx])))
        (trodAll_cons_mk (WideElems.Trod_stays (sp' := sp) Try.laidOut (by kernel_rfl) (of_decide_eq_true (by kernel_rfl)) h2 (fun x hx => hg.same (hlt x (by simp [hx]))) (fun x hx => hsp x (by simp [hx]))) (trodAll_mk0 (enc := enc) (P := Try.prog) (w := W') (base := 0) (spare := sp) (held := true))))
      rw [List.append_nil] at hT
      exact hT) (fun _ _ => rfl) (by simp) hg (ok_one (by kernel_rfl) rfl (okWide_bool_mk Try.underlying4 _))⟩
theorem over : Rows.flowGoesRow.holds Try.pinned (OpenSpec.ofChange Rows.flowGoesSpec) :=
  OpenClaim.holds_of_wide 7 Try.f7 rfl rfl rfl rfl rfl rfl rfl ⟨rfl, rfl, rfl, rfl, rfl⟩ rfl rfl rfl rfl rfl (by kernel_rfl) Try.func7 (by kernel_rfl)
    (of_decide_eq_true (by kernel_rfl)) (by unfold Func.isWrapper; first | (rw [if_pos (by decide +kernel)]; kernel_rfl) | (rw [if_neg (by decide +kernel)]; exact ⟨rfl, rfl⟩))
    (fun os started H enc _ => lifted os started H enc)
end flowGoes
theorem flowGoes_holds : Rows.FlowGoesSaid := flowGoes.over
end Go.Proofs.Ytfbejjobejdenaa
#print axioms Go.Proofs.Ytfbejjobejdenaa.flowGoes_holds
