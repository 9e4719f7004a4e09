/- FlowDoes: for every two nodes and every list of records at times the law returns true; its arguments read as they did. No condition. -/
import Derived.Test.YtfbejjobejdenaaFDoes1
import Derived.Test.YtfbejjobejdenaaFDoes2
import Derived.Test.YtfbejjobejdenaaFRows
import Derived.Test.YtfbejjobejdenaaPost
import Derived.SizedLaws
import Derived.ChangeSame
import Derived.Lib.SmallJoins
set_option linter.unusedVariables false
set_option linter.unusedSimpArgs false
namespace Go.Proofs.Ytfbejjobejdenaa
namespace flowRows
open Go.Joins Go.ChangeShapes Go.WideShapes Go.ChangeAt Go.RowKit Go.Deep
theorem own : ownKnob Try.prog.godebug = none := by kernel_rfl
theorem cells25 : Try.prog.cellsOf 25 = 2 := by kernel_rfl
theorem cells58 : Try.prog.cellsOf 58 = 3 := by kernel_rfl
theorem cells44 : Try.prog.cellsOf 44 = 3 := by kernel_rfl
theorem cells47 : Try.prog.cellsOf 47 = 10 := by kernel_rfl
theorem cells22 : Try.prog.cellsOf 22 = 1 := by kernel_rfl
theorem cells23 : Try.prog.cellsOf 23 = 1 := by kernel_rfl
theorem cells45 : Try.prog.cellsOf 45 = 1 := by kernel_rfl
theorem cells4 : Try.prog.cellsOf 4 = 1 := by kernel_rfl
theorem cells3 : Try.prog.cellsOf 3 = 1 := by kernel_rfl
theorem slice_shape {H : Type} {enc : TypeId × Value → H} {W : World} {base : Nat} {sp : Nat → Bool} {v : Value} {fuel : Nat} {x : DataW H × List MemPlace}
    (hf : DataW.trod enc Try.prog W base sp true fuel 22 [v] = some x) : ∃ ad len cap, v = .slice ad len cap := by
  rcases codeRows.open_slice_fields Try.underlying22 Try.underlying29 (by kernel_rfl) Try.cells29 hf with ⟨hcs, hx⟩ | ⟨a, len', cap', m, D, Pl, hcs, _⟩
  · simp at hcs; exact ⟨_, _, _, hcs⟩
  · simp at hcs; exact ⟨_, _, _, hcs⟩
theorem u64_of {n : Int} (h : (Lit.int .u64 n).wf = true) : 0 ≤ n ∧ n < 18446744073709551616 := by
  have := h
  simp [Lit.wf] at this
  have h0 : IntKind.u64.min = 0 := by decide
  have h1 : IntKind.u64.max = 18446744073709551615 := by decide
  omega
section
variable {H : Type} {enc : TypeId × Value → H} {W : World} {base : Nat} {sp : Nat → Bool}
theorem open_three {T : TypeId} {f0 f1 f2 : Field} (hu : Try.prog.underlying T = some (.struct #[f0, f1, f2])) (h0 : f0.type = 23 ∧ f0.offset = 0) (h1 : f1.type = 23 ∧ f1.offset = 1) (h2 : f2.type = 23 ∧ f2.offset = 2) (hC : Try.prog.cellsOf T = 3)
    {fuel : Nat} {cs : List Value} {x : DataW H × List MemPlace} (hf : DataW.trod enc Try.prog W base sp true fuel T cs = some x) : ∃ t : PCodeSays.T3, t.ok ∧ cs = [.int .u64 t.a, .int .u64 t.b, .int .u64 t.c] := by
  obtain ⟨xs, n, _, hx, hl, hxl, hfi⟩ := DataW.trod_struct hu hf
  rw [hC] at hl
  obtain ⟨c0, c1, c2, rfl⟩ : ∃ a b c, cs = [a, b, c] := by
    rcases cs with _ | ⟨a, _ | ⟨b, _ | ⟨c, _ | ⟨d, l⟩⟩⟩⟩ <;> simp at hl
    exact ⟨a, b, c, rfl⟩
  obtain ⟨y0, y1, y2, rfl⟩ : ∃ a b c, xs = [a, b, c] := by
    rcases xs with _ | ⟨a, _ | ⟨b, _ | ⟨c, _ | ⟨d, l⟩⟩⟩⟩ <;> simp at hxl
    exact ⟨a, b, c, rfl⟩
  have t0 := hfi 0 f0 rfl
  have t1 := hfi 1 f1 rfl
  have t2 := hfi 2 f2 rfl
  rw [h0.1, h0.2] at t0
  rw [h1.1, h1.2] at t1
  rw [h2.1, h2.2] at t2
  simp [cells23] at t0 t1 t2
  obtain ⟨a, za, _, wa⟩ := DataW.trod_int Try.underlying23 t0
  obtain ⟨b, zb, _, wb⟩ := DataW.trod_int Try.underlying23 t1
  obtain ⟨c, zc, _, wc⟩ := DataW.trod_int Try.underlying23 t2
  simp at za zb zc
  subst za; subst zb; subst zc
  exact ⟨⟨a, b, c⟩, ⟨u64_of wa, u64_of wb, u64_of wc⟩, rfl⟩
/-- A node read. -/
theorem open_node {fuel : Nat} {cs : List Value} {x : DataW H × List MemPlace} (hf : DataW.trod enc Try.prog W base sp true fuel 47 cs = some x) :
    ∃ (kind ins outs : Int) (A : Option Addr) (c : Nat) (l : List PCodeSays.S29) (p : PCodeSays.T3) (bd : Int) (cv : Value) (st : Bool), cs = [.int .i64 kind, .int .i64 ins, .int .i64 outs, .slice A l.length c, .int .u64 p.a, .int .u64 p.b, .int .u64 p.c, .int .u64 bd, cv, .bool st] ∧
      PCodeSays.Row W A l ∧ l.length ≤ c ∧ p.ok ∧ (0 ≤ bd ∧ bd < 18446744073709551616) ∧ cv.oneCell' = true ∧ ∃ D0 D1 D2 D3 D4 D5 D6 D7, x.1 = .agg [D0, D1, D2, D3, D4, D5, D6, D7] ∧ l.length ≤ Rows.uptoBulk D3 ∧ ((∃ Ds Es, D3 = .slice Ds Es ∧ Ds.length = l.length) ∨ l = []) := by
  obtain ⟨xs, n, _, hx, hl, hxl, hfi⟩ := DataW.trod_struct Try.underlying47 hf
  rw [cells47] at hl
  obtain ⟨c0, c1, c2, c3, c4, c5, c6, c7, c8, c9, rfl⟩ : ∃ c0 c1 c2 c3 c4 c5 c6 c7 c8 c9, cs = [c0, c1, c2, c3, c4, c5, c6, c7, c8, c9] := by
    rcases cs with _ | ⟨c0, _ | ⟨c1, _ | ⟨c2, _ | ⟨c3, _ | ⟨c4, _ | ⟨c5, _ | ⟨c6, _ | ⟨c7, _ | ⟨c8, _ | ⟨c9, _ | ⟨c10, l⟩⟩⟩⟩⟩⟩⟩⟩⟩⟩⟩ <;> simp at hl
    exact ⟨c0, c1, c2, c3, c4, c5, c6, c7, c8, c9, rfl⟩
  obtain ⟨y0, y1, y2, y3, y4, y5, y6, y7, rfl⟩ : ∃ y0 y1 y2 y3 y4 y5 y6 y7, xs = [y0, y1, y2, y3, y4, y5, y6, y7] := by
    rcases xs with _ | ⟨c0, _ | ⟨c1, _ | ⟨c2, _ | ⟨c3, _ | ⟨c4, _ | ⟨c5, _ | ⟨c6, _ | ⟨c7, _ | ⟨c8, l⟩⟩⟩⟩⟩⟩⟩⟩⟩ <;> simp at hxl
    exact ⟨c0, c1, c2, c3, c4, c5, c6, c7, rfl⟩
  have t0 := hfi 0 _ rfl
  have t1 := hfi 1 _ rfl
  have t2 := hfi 2 _ rfl
  have t3 := hfi 3 _ rfl
  have t4 := hfi 4 _ rfl
  have t5 := hfi 5 _ rfl
  have t6 := hfi 6 _ rfl
  have t7 := hfi 7 _ rfl
  simp [cells3, cells22, cells23, cells44, cells45, cells4] at t0 t1 t2 t3 t4 t5 t6 t7
  obtain ⟨k0, z0, _, _⟩ := DataW.trod_int Try.underlying3 t0
  obtain ⟨k1, z1, _, _⟩ := DataW.trod_int Try.underlying3 t1
  obtain ⟨k2, z2, _, _⟩ := DataW.trod_int Try.underlying3 t2
  obtain ⟨ad, len, cap, rfl⟩ := slice_shape t3
  obtain ⟨l, rfl, rl, cl, bu, bl⟩ := codeRows.open_ops t3
  obtain ⟨p, hp, z4⟩ := open_three Try.underlying44 ⟨rfl, rfl⟩ ⟨rfl, rfl⟩ ⟨rfl, rfl⟩ cells44 t4
  obtain ⟨bd, z5, _, wb⟩ := DataW.trod_int Try.underlying23 t5
  obtain ⟨st, z7, _⟩ := DataW.trod_bool Try.underlying4 t7
  have h6 : c8.oneCell' = true := by
    rcases open_slice Try.underlying45 t6 with ⟨h, _⟩ | ⟨a, len, cap, m, n, D, Pl, h, _⟩
    · simp at h; subst h; rfl
    · simp at h; subst h; rfl
  simp at z0 z1 z2 z4 z5 z7
  obtain ⟨z4, z4', z4''⟩ := z4
  subst z0; subst z1; subst z2; subst z4; subst z4'; subst z4''; subst z5; subst z7
  refine ⟨k0, k1, k2, ad, cap, l, p, bd, c8, st, rfl, rl, cl, hp, u64_of wb, h6, y0.1, y1.1, y2.1, y3.1, y4.1, y5.1, y6.1, y7.1, by rw [hx]; rfl, bu, bl⟩
end
theorem cells60 : Try.prog.cellsOf 60 = 5 := by kernel_rfl
theorem bytes60 : Try.prog.bytesOf 60 = 40 := by kernel_rfl
theorem bytes29 : Try.prog.bytesOf 29 = 16 := by kernel_rfl
section
variable {H : Type} {enc : TypeId × Value → H} {W : World} {base : Nat} {sp : Nat → Bool}
/-- What is asked, read. -/
theorem open_ask {fuel : Nat} {cs : List Value} {x : DataW H × List MemPlace} (hf : DataW.trod enc Try.prog W base sp true fuel 60 cs = some x) :
    ∃ q : PCodeSays.Q5, q.t.ok ∧ cs = [.int .u64 q.t.a, .int .u64 q.t.b, .int .u64 q.t.c, .int .u64 q.a, .int .u64 q.b] := by
  obtain ⟨u0, u1, n', hxx, hl, s0, s1⟩ := trod_struct2 Try.underlying60 hf
  rw [cells60] at hl
  obtain ⟨c0, c1, c2, c3, c4, rfl⟩ : ∃ a b c d e, cs = [a, b, c, d, e] := by
    rcases cs with _ | ⟨a, _ | ⟨b, _ | ⟨c, _ | ⟨d, _ | ⟨e, _ | ⟨f, l⟩⟩⟩⟩⟩⟩ <;> simp at hl
    exact ⟨a, b, c, d, e, rfl⟩
  simp [cells58, cells25] at s0 s1
  obtain ⟨t, ht, h0⟩ := open_three Try.underlying58 ⟨rfl, rfl⟩ ⟨rfl, rfl⟩ ⟨rfl, rfl⟩ cells58 s0
  obtain ⟨y0, y1, n2, _, _, r0, r1⟩ := trod_struct2 Try.underlying25 s1
  simp [cells23] at r0 r1
  obtain ⟨ka, za, _, _⟩ := DataW.trod_int Try.underlying23 r0
  obtain ⟨kb, zb, _, _⟩ := DataW.trod_int Try.underlying23 r1
  simp at za zb h0
  obtain ⟨h0, h0', h0''⟩ := h0
  subst za; subst zb; subst h0; subst h0'; subst h0''
  exact ⟨⟨t, ka, kb⟩, ht, rfl⟩
theorem open_asks {ad : Option Addr} {len cap fuel : Nat} {x : DataW H × List MemPlace}
    (hf : DataW.trod enc Try.prog W base sp true fuel 48 [.slice ad len cap] = some x) :
    ∃ qs : List PCodeSays.Q5, len = qs.length ∧ len ≤ cap ∧ (∀ q ∈ qs, q.t.ok) ∧ ((∃ Ds Es, x.1 = .slice Ds Es ∧ Ds.length = len) ∨ len = 0) ∧
      (0 < len → ∃ b off, ad = some ⟨b, off, none⟩ ∧ b < W.heap.size ∧ ∀ i, (h : i < qs.length) → W.cell? ⟨b, off + i * 5, none⟩ = some (.int .u64 qs[i].t.a) ∧ W.cell? ⟨b, off + i * 5 + 1, none⟩ = some (.int .u64 qs[i].t.b) ∧ W.cell? ⟨b, off + i * 5 + 2, none⟩ = some (.int .u64 qs[i].t.c) ∧ W.cell? ⟨b, off + i * 5 + 3, none⟩ = some (.int .u64 qs[i].a) ∧ W.cell? ⟨b, off + i * 5 + 4, none⟩ = some (.int .u64 qs[i].b)) := by
  rcases open_slice Try.underlying48 hf with ⟨hcs, hx⟩ | ⟨a, len', cap', m, n, D, Pl, hcs, _, hl, hm, hz, hx, hi⟩
  · simp at hcs
    obtain ⟨rfl, rfl, rfl⟩ := hcs
    exact ⟨[], rfl, by omega, by simp, .inr rfl, fun h => absurd h (by omega)⟩
  · simp at hcs
    obtain ⟨rfl, rfl, rfl⟩ := hcs
    subst hx
    have hlm : len ≤ m := by split at hz <;> omega
    have hel : ∀ i, i < len → ∃ q : PCodeSays.Q5, q.t.ok ∧ W.cell? ((a.add (i * 5)).add 0) = some (.int .u64 q.t.a) ∧ W.cell? ((a.add (i * 5)).add 1) = some (.int .u64 q.t.b) ∧ W.cell? ((a.add (i * 5)).add 2) = some (.int .u64 q.t.c) ∧ W.cell? ((a.add (i * 5)).add 3) = some (.int .u64 q.a) ∧ W.cell? ((a.add (i * 5)).add 4) = some (.int .u64 q.b) := by
      intro i hil
      obtain ⟨cs', hc, ht⟩ := hi i (by omega)
      rw [cells60] at hc
      obtain ⟨q, hq, rfl⟩ := open_ask ht
      obtain ⟨_, _, hat⟩ := World.cells?_some hc
      exact ⟨q, hq, (hat 0 (by omega)).trans rfl, (hat 1 (by omega)).trans rfl, (hat 2 (by omega)).trans rfl, (hat 3 (by omega)).trans rfl, (hat 4 (by omega)).trans rfl⟩
    let qs : List PCodeSays.Q5 := (List.range len).map (fun i => if h : i < len then (hel i h).choose else ⟨⟨0, 0, 0⟩, 0, 0⟩)
    have hlen : qs.length = len := by simp [qs]
    have hq : ∀ i, (h : i < qs.length) → qs[i] = (hel i (by omega)).choose := fun i h => by
      have h2 : i < len := by omega
      simp [qs, h2]
    refine ⟨qs, hlen.symm, hl, fun q hqm => ?_, .inl ⟨_, _, rfl, by simp⟩, fun hp => ?_⟩
    · obtain ⟨i, hi', rfl⟩ := List.mem_iff_getElem.1 hqm
      rw [hq i hi']
      exact (hel i (by omega)).choose_spec.1
    · obtain ⟨q0, _, e0, _⟩ := hel 0 hp
      rw [Nat.zero_mul, Go.Deep.add_add, Nat.zero_add] at e0
      obtain ⟨b, off, rfl⟩ := codeRows.addr_plain e0
      have hadd : ∀ j, (⟨b, off, none⟩ : Addr).add j = ⟨b, off + j, none⟩ := fun j => by unfold Addr.add; split <;> simp_all
      refine ⟨b, off, rfl, ?_, fun i hi' => ?_⟩
      · have := World.block_lt_of_cell? W _ e0
        rw [hadd] at this
        exact this
      · have hs := (hel i (by omega)).choose_spec.2
        rw [← hq i hi'] at hs
        simp only [Go.Deep.add_add, hadd, Nat.add_zero, ← Nat.add_assoc] at hs
        exact hs
end
end flowRows
namespace PCodeSays
open Go.RowKit Go.Proofs.YtfbejjobejdenaaW.PrintWords Go.Proofs.YtfbejjobejdenaaW.PrintLast Go.Proofs.YtfbejjobejdenaaW.PrintMore
theorem flow_c {w : World} {A1 A2 A3 : Option Addr} {c1 c2 c3 m : Nat} {l1 l2 : List S29} {qs : List Q5} (hr1 : Row w A1 l1) (hc1 : l1.length ≤ c1) (hla1 : 0 < l1.length → ∃ b off, A1 = some ⟨b, off, none⟩) (kind1 ins1 outs1 pa1 pb1 pc1 bd1 : Int) (cv1 : Value) (st1 : Bool) (hv1 : cv1.oneCell' = true) (hp1 : T3.ok ⟨pa1, pb1, pc1⟩)
    (hr2 : Row w A2 l2) (hc2 : l2.length ≤ c2) (hla2 : 0 < l2.length → ∃ b off, A2 = some ⟨b, off, none⟩) (kind2 ins2 outs2 pa2 pb2 pc2 bd2 : Int) (cv2 : Value) (st2 : Bool) (hv2 : cv2.oneCell' = true) (hp2 : T3.ok ⟨pa2, pb2, pc2⟩) (hl1 : (l1.length + 1) * 16 ≤ 140737488355328) (hq : m = qs.length) (hm : m < 140737488355328) (hqc : m ≤ c3) (hqk : ∀ q ∈ qs, q.t.ok)
    (hqs : 0 < m → ∃ b off, A3 = some ⟨b, off, none⟩ ∧ b < w.heap.size ∧ ∀ i, (h : i < qs.length) → w.cell? ⟨b, off + i * 5, none⟩ = some (.int .u64 qs[i].t.a) ∧ w.cell? ⟨b, off + i * 5 + 1, none⟩ = some (.int .u64 qs[i].t.b) ∧ w.cell? ⟨b, off + i * 5 + 2, none⟩ = some (.int .u64 qs[i].t.c) ∧ w.cell? ⟨b, off + i * 5 + 3, none⟩ = some (.int .u64 qs[i].a) ∧ w.cell? ⟨b, off + i * 5 + 4, none⟩ = some (.int .u64 qs[i].b)) :
    Calls Try.prog 6 #[nodeV kind1 ins1 outs1 A1 l1.length c1 ⟨pa1, pb1, pc1⟩ bd1 cv1 st1, nodeV kind2 ins2 outs2 A2 l2.length c2 ⟨pa2, pb2, pc2⟩ bd2 cv2 st2, .slice A3 m c3] w fun e w' => e = .returned (.bool true) ∧ Below w.heap.size w w' := by
  cases e1 : (newE kind1 l1 != 0)
  · exact flow_1 hr1 hc1 hla1 kind1 ins1 outs1 pa1 pb1 pc1 bd1 cv1 st1 hv1 hp1 e1 hr2 hc2 hla2 kind2 ins2 outs2 pa2 pb2 pc2 bd2 cv2 st2 hv2 hp2 hl1 hq hm hqc hqk hqs
  · exact flow_0 hr1 hc1 hla1 kind1 ins1 outs1 pa1 pb1 pc1 bd1 cv1 st1 hv1 hp1 e1 hr2 hc2 hla2 kind2 ins2 outs2 pa2 pb2 pc2 bd2 cv2 st2 hv2 hp2 hl1 hq hm hqc hqk hqs
theorem Row.plain {w : World} {A : Option Addr} {l : List S29} (h : Row w A l) : 0 < l.length → ∃ b off, A = some ⟨b, off, none⟩ := fun hn => by
  obtain ⟨ad, rfl, hb, hc⟩ := h.2.2 hn
  have c0 := hc 0 (.int .i64 l[0].f0) (by
    have := flatS_get l 0 0 hn (by omega)
    simp only [Nat.zero_mul, Nat.zero_add] at this
    rw [this]; rfl)
  obtain ⟨b, off, rfl⟩ := codeRows.addr_plain c0
  exact ⟨b, off, rfl⟩
end PCodeSays
namespace flowDoes
open Go.Joins Go.ChangeShapes Go.WideShapes Go.ChangeAt Go.RowKit Go.Deep
set_option maxRecDepth 100000 in
set_option maxHeartbeats 2000000 in
theorem lifted (os : Os) (started : os.Started) (H : Type) (enc : TypeId × Value → H) :
    ReturnsInHanded {} Try.checked os 6 .any (Rows.flowDoesSpec.pre6 enc Try.prog Try.f6 Rows.flowDoesRow.domain false) (Rows.flowDoesSpec.post enc Try.prog Try.f6 false true false false) := by
  refine returnsInHanded_of_change_sized (C := Try.checked) flowRows.own started (by kernel_rfl) Try.func6
    (ChangeSpec.witness6 (enc := enc) (C := Try.checked) false ⟨#[], #[.agg #[.int .i64 0, .int .i64 0, .int .i64 0, .slice none 0 0, .int .u64 0, .int .u64 0, .int .u64 0, .int .u64 0, .slice none 0 0, .bool false], .agg #[.int .i64 0, .int .i64 0, .int .i64 0, .slice none 0 0, .int .u64 0, .int .u64 0, .int .u64 0, .int .u64 0, .slice none 0 0, .bool false], .slice none 0 0], []⟩ 8 (by kernel_rfl) (by kernel_rfl) (by kernel_rfl) (by kernel_rfl)) ?_
  intro W base args ds gs before hval0 hW _ hsz0 _
  have hsz : (DataW.weightsEach Try.prog (Try.f6.params.toList ++ Rows.flowDoesSpec.plain.varTypes Try.prog) (ds ++ gs)).all (· ≤ reachBytes) = true := hsz0
  clear hsz0
  have hval : ∀ (j : Nat) t v, Try.f6.params[j]? = some t → args[j]? = some v → Value.okWide Try.prog W .any base t v := hval0
  have hW' := hW
  obtain ⟨p, q, hA0, hV, rfl, hfz, hnd⟩ := hW
  have hA : DataW.TrodAll enc Try.prog W 0 (fun _ => true) true Try.f6.params.toList args.toList ds p := hA0
  rw [Try.params6] at hA hval hsz
  obtain ⟨v0, vs0, d0, ds0, p0, q0, hargs, rfl, rfl, h0, r0⟩ := trodAll_cons hA
  obtain ⟨v1, vs1, d1, ds1, p1, q1, rfl, rfl, rfl, h1, r1⟩ := trodAll_cons r0
  obtain ⟨v2, vs2, d2, ds2, p2, q2, rfl, rfl, rfl, h2, r2⟩ := trodAll_cons r1
  obtain ⟨rfl, rfl, rfl⟩ := trodAll_nil r2
  obtain rfl : args = #[v0, v1, v2] := by cases args; simp_all
  obtain ⟨rfl, rfl⟩ := trodVars_none hV
  clear hA0 hval0
  simp only [List.append_nil, List.nil_append] at hW'
  have hlt : ∀ x ∈ p0 ++ (p1 ++ p2), x.block < W.heap.size := fun x hx => hW'.lt x (by simpa using hx)
  have hr : reachBytes = 140737488351232 := rfl
  have fin : Calls Try.prog 6 #[v0, v1, v2] W (fun (e : Ending) W' => e = .returned (.bool true) ∧ Below W.heap.size W W') := by
    obtain ⟨cs0, rfl, hcs0⟩ := okWide_struct Try.underlying47 (hval 0 47 v0 rfl rfl)
    obtain ⟨cs1, rfl, hcs1⟩ := okWide_struct Try.underlying47 (hval 1 47 v1 rfl rfl)
    obtain ⟨fuel0, f0⟩ := h0
    obtain ⟨fuel1, f1⟩ := h1
    obtain ⟨fuel2, f2⟩ := h2
    obtain ⟨kind1, ins1, outs1, A1, c1, l1, pp1, bd1, cv1, st1, e0, rl1, cl1, hp1, _, hcv1, D0, D1, D2, D3, D4, D5, D6, D7, hd0, _, hb1⟩ := flowRows.open_node f0
    obtain ⟨kind2, ins2, outs2, A2, c2, l2, pp2, bd2, cv2, st2, e1, rl2, cl2, hp2, _, hcv2, _⟩ := flowRows.open_node f1
    obtain ⟨ad, len, cap, rfl⟩ := okWide_slice Try.underlying48 (hval 2 48 v2 rfl rfl)
    obtain ⟨qs, rfl, hqc, hqk, hqb, hqs⟩ := flowRows.open_asks f2
    have hl1 : (l1.length + 1) * 16 ≤ 140737488355328 := by
      rcases hb1 with ⟨Ds, Es, hD, hDl⟩ | rfl
      · have := List.all_eq_true.1 hsz ((Ds.length + Es.length) * Try.prog.bytesOf 29) (DataW.weights_mem_each (j := 0) (t := 47) (d := d0) rfl rfl _ (by
          simp only at hd0
          rw [hd0]
          simp only [DataW.weights, Try.underlying47]
          refine DataW.weights_mem_each (j := 3) (t := 22) (d := D3) rfl rfl _ ?_
          rw [hD]
          simp [DataW.weights, Try.underlying22]))
        rw [flowRows.bytes29] at this
        simp at this
        omega
      · simp
    have hm : qs.length < 140737488355328 := by
      rcases hqb with ⟨Ds, Es, hD, hDl⟩ | h
      · have := List.all_eq_true.1 hsz ((Ds.length + Es.length) * Try.prog.bytesOf 60) (DataW.weights_mem_each (j := 2) (t := 48) (d := d2) rfl rfl _ (by
          simp only at hD
          rw [hD]
          simp [DataW.weights, Try.underlying48]))
        rw [flowRows.bytes60] at this
        simp at this
        omega
      · omega
    obtain ⟨m0⟩ := cs0
    obtain ⟨m1⟩ := cs1
    simp only [Value.cells] at e0 e1
    subst e0; subst e1
    exact PCodeSays.flow_c rl1 cl1 rl1.plain kind1 ins1 outs1 pp1.a pp1.b pp1.c bd1 cv1 st1 hcv1 hp1 rl2 cl2 rl2.plain kind2 ins2 outs2 pp2.a pp2.b pp2.c bd2 cv2 st2 hcv2 hp2 hl1 rfl hm hqc hqk hqs
  refine fin.mono fun e W' ⟨he, hg⟩ => ?_
  subst he
  exact ⟨_, rfl, post_of_below (pa := p0 ++ (p1 ++ p2)) (pv := []) (ds := [d0, d1, d2]) (gs := []) (before := p0 ++ (p1 ++ p2)) (by simpa using hW') (fun _ _ _ => (trodAll_cons_mk (shut_bool Try.underlying4 _) trodAll_mk0))
    (fun sp hsp => by
      have hT := trodAll_cons_mk (WideElems.Trod_stays (sp' := sp) Try.laidOut (by kernel_rfl) (of_decide_eq_true (by kernel_rfl)) h0 (fun x hx => hg.same (hlt x (by simp [hx]))) (fun x hx => hsp x (by simp [hx])))
        (trodAll_cons_mk (WideElems.Trod_stays (sp' := sp) Try.laidOut (by kernel_rfl) (of_decide_eq_true (by kernel_rfl)) h1 (fun x hx => hg.same (hlt x (by simp [hx]))) (fun x hx => hsp x (by simp [hx])))
        (trodAll_cons_mk (WideElems.Trod_stays (sp' := sp) Try.laidOut (by kernel_rfl) (of_decide_eq_true (by kernel_rfl)) h2 (fun x hx => hg.same (hlt x (by simp [hx]))) (fun x hx => hsp x (by simp [hx]))) (trodAll_mk0 (enc := enc) (P := Try.prog) (w := W') (base := 0) (spare := sp) (held := true))))
      rw [List.append_nil] at hT
      exact hT) (fun _ _ => rfl) (by simp) hg (ok_one (by kernel_rfl) rfl (okWide_bool_mk Try.underlying4 _))⟩
theorem over : Rows.flowDoesRow.holds Try.pinned (OpenSpec.ofChange Rows.flowDoesSpec) :=
  OpenClaim.holds_of_wide 6 Try.f6 rfl rfl rfl rfl rfl rfl rfl ⟨rfl, rfl, rfl, rfl, rfl⟩ rfl rfl rfl rfl rfl (by kernel_rfl) Try.func6 (by kernel_rfl)
    (of_decide_eq_true (by kernel_rfl)) (by unfold Func.isWrapper; first | (rw [if_pos (by decide +kernel)]; kernel_rfl) | (rw [if_neg (by decide +kernel)]; exact ⟨rfl, rfl⟩))
    (fun os started H enc _ => lifted os started H enc)
end flowDoes
theorem flowDoes_holds : Rows.FlowDoesSaid := flowDoes.over
end Go.Proofs.Ytfbejjobejdenaa
#print axioms Go.Proofs.Ytfbejjobejdenaa.flowDoes_holds
