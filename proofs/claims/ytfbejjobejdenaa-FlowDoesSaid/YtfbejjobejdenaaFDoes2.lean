/- The flows: the walk of FlowDoes: the first node has no operator. -/
import Derived.Test.YtfbejjobejdenaaFDoes
set_option linter.unusedVariables false
set_option linter.unusedSimpArgs false
namespace Go.Proofs.Ytfbejjobejdenaa.PCodeSays
open Go.RowKit Go.Proofs.YtfbejjobejdenaaW.PrintWords Go.Proofs.YtfbejjobejdenaaW.PrintLast Go.Proofs.YtfbejjobejdenaaW.PrintMore
set_option maxRecDepth 100000 in
set_option maxHeartbeats 8000000 in
theorem flow_0 {w : World} {A1 A2 A3 : Option Addr} {c1 c2 c3 m : Nat} {l1 l2 : List S29} {qs : List Q5} (hr1 : Row w A1 l1) (hc1 : l1.length ≤ c1) (hla1 : 0 < l1.length → ∃ b off, A1 = some ⟨b, off, none⟩) (kind1 ins1 outs1 pa1 pb1 pc1 bd1 : Int) (cv1 : Value) (st1 : Bool) (hv1 : cv1.oneCell' = true) (hp1 : T3.ok ⟨pa1, pb1, pc1⟩) (hb1 : (newE kind1 l1 != 0) = true) (hr2 : Row w A2 l2) (hc2 : l2.length ≤ c2) (hla2 : 0 < l2.length → ∃ b off, A2 = some ⟨b, off, none⟩) (kind2 ins2 outs2 pa2 pb2 pc2 bd2 : Int) (cv2 : Value) (st2 : Bool) (hv2 : cv2.oneCell' = true) (hp2 : T3.ok ⟨pa2, pb2, pc2⟩) (hl1 : (l1.length + 1) * 16 ≤ 140737488355328) (hq : m = qs.length) (hm : m < 140737488355328) (hqc : m ≤ c3) (hqk : ∀ q ∈ qs, q.t.ok)
    (hqs : 0 < m → ∃ b off, A3 = some ⟨b, off, none⟩ ∧ b < w.heap.size ∧ ∀ i, (h : i < qs.length) → w.cell? ⟨b, off + i * 5, none⟩ = some (.int .u64 qs[i].t.a) ∧ w.cell? ⟨b, off + i * 5 + 1, none⟩ = some (.int .u64 qs[i].t.b) ∧ w.cell? ⟨b, off + i * 5 + 2, none⟩ = some (.int .u64 qs[i].t.c) ∧ w.cell? ⟨b, off + i * 5 + 3, none⟩ = some (.int .u64 qs[i].a) ∧ w.cell? ⟨b, off + i * 5 + 4, none⟩ = some (.int .u64 qs[i].b)) :
    Calls Try.prog 6 #[nodeV kind1 ins1 outs1 A1 l1.length c1 ⟨pa1, pb1, pc1⟩ bd1 cv1 st1, nodeV kind2 ins2 outs2 A2 l2.length c2 ⟨pa2, pb2, pc2⟩ bd2 cv2 st2, .slice A3 m c3] w fun e w' => e = .returned (.bool true) ∧ Below w.heap.size w w' := by
  obtain ⟨i0, hi0, hz0, hzs, hz2⟩ := info_parts info29
  have hk51 := fun W => kind_c (.iface 51 (.agg #[])) (by simp) W
  simp only [kindOf] at hk51
  have hnew1 : ∀ (A : Option Addr) (c : Nat) (W : World), Row W A l1 → l1.length ≤ c → _ := fun A c W hr hc => new_c2 (w := W) (A := A) (c := c) kind1 ins1 outs1 ⟨pa1, pb1, pc1⟩ bd1 cv1 st1 hr hc hv1
  have hnew2 : ∀ (W : World), Below w.heap.size w W → _ := fun W hb => new_c2 (w := W) kind2 ins2 outs2 ⟨pa2, pb2, pc2⟩ bd2 cv2 st2 (hr2.below hb) hc2 hv2
  have hrn1 : ∀ (W : World), Below w.heap.size w W → _ := fun W hb => rnew_c (w := W) kind1 ins1 outs1 ⟨pa1, pb1, pc1⟩ bd1 cv1 st1 (hr1.below hb) hc1
  have hrn2 : ∀ (W : World), Below w.heap.size w W → _ := fun W hb => rnew_c (w := W) kind2 ins2 outs2 ⟨pa2, pb2, pc2⟩ bd2 cv2 st2 (hr2.below hb) hc2
  have HQ := Lib.hid hq
  have HQS := Lib.hid hqs
  clear hq hqs
  have HR1 := Lib.hid hr1
  have HR2 := Lib.hid hr2
  have HC1 := Lib.hid hc1
  have HC2 := Lib.hid hc2
  obtain ⟨n1, hn1⟩ : ∃ n, n = l1.length := ⟨_, rfl⟩
  obtain ⟨n2, hn2⟩ : ∃ n, n = l2.length := ⟨_, rfl⟩
  rw [← hn1] at hnew1 hrn1 hl1 hla1 hc1 ⊢
  rw [← hn2] at hnew2 hrn2 hc2 ⊢
  have HN1 := Lib.hid hn1
  have HN2 := Lib.hid hn2
  obtain ⟨er1, her1⟩ : ∃ er, er = newE kind1 l1 := ⟨_, rfl⟩
  rw [← her1] at hnew1 hrn1 hb1
  clear her1
  obtain ⟨er2, her2⟩ : ∃ er, er = newE kind2 l2 := ⟨_, rfl⟩
  rw [← her2] at hnew2 hrn2
  clear her2
  obtain ⟨b2, hb2⟩ : ∃ b, (er2 != 0) = b := ⟨_, rfl⟩
  clear hr1 hr2 hn1 hn2 hc2 hla2
  obtain ⟨nb, hnb⟩ : ∃ nb, nb = w.heap.size := ⟨_, rfl⟩
  simp only [nodeV] at hnew1 hnew2 hrn1 hrn2 ⊢
  go_enter Try.func6, Try.ntmps6
  go_upto_region 1 with fail
  have k0 := DN.start (w := w) (rc := (ndc kind1 ins1 outs1 A1 n1 c1 pa1 pb1 pc1 bd1 cv1 st1)) (rd := (ndc kind2 ins2 outs2 A2 n2 c2 pa2 pb2 pc2 bd2 cv2 st2))
  simp only [ndc] at k0
  generalize (w.alloc (.cells #[.int .i64 kind1, .int .i64 ins1, .int .i64 outs1, .slice A1 n1 c1, .int .u64 pa1, .int .u64 pb1, .int .u64 pc1, .int .u64 bd1, cv1, .bool st1] 47)).alloc (.cells #[.int .i64 kind2, .int .i64 ins2, .int .i64 outs2, .slice A2 n2 c2, .int .u64 pa2, .int .u64 pb2, .int .u64 pc2, .int .u64 bd2, cv2, .bool st2] 47) = W0 at *
  rw [← hnb] at k0 hnew2 hrn1 hrn2 ⊢
  have HNB := Lib.hid hnb
  have hnb1 : nb ≤ w.heap.size := by omega
  clear hnb
  go_upto_region 3 with fail
  refine (taken_c _).mono ?_
  rintro e w1 ⟨rfl, b1⟩
  go_upto_region 3 with fail
  refine (hk51 _).mono ?_
  rintro e w2 ⟨rfl, b2⟩
  have k2 := (k0.then b1).then b2
  clear k0 b1 b2 hk51
  go_upto_region 3 with fail
  have ⟨z0, z1, z2, z3, z4, z5, z6, z7, z8, z9⟩ := node_cells (kd := kind1) (ins := ins1) (outs := outs1) (pa := pa1) (pb := pb1) (pc := pc1) (bd := bd1) (cv := cv1) (st := st1) k2.x0
  have hst := fun (W : World) (a : Addr) => run_store Try.prog W a cv1 .plain hv1
  go_upto_region 4 with fail
  clear hst
  have hn1b : n1 < 8796093022208 := by omega
  have k3 : DN w (w2.alloc (.cells (ndc kind1 ins1 outs1 A1 n1 c1 pa1 pb1 pc1 bd1 cv1 st1) 47)) nb (ndc kind1 ins1 outs1 A1 n1 c1 pa1 pb1 pc1 bd1 cv1 st1) (ndc kind2 ins2 outs2 A2 n2 c2 pa2 pb2 pc2 bd2 cv2 st2) := k2.then ((Below.refl _ _).alloc (Nat.le_refl _) _)
  have xo : (w2.alloc (.cells (ndc kind1 ins1 outs1 A1 n1 c1 pa1 pb1 pc1 bd1 cv1 st1) 47)).heap[w2.heap.size]? = some (.cells (ndc kind1 ins1 outs1 A1 n1 c1 pa1 pb1 pc1 bd1 cv1 st1) 47 (0, 0)) := alloc_at rfl
  have hno := k2.lt
  obtain ⟨no, hno2⟩ : ∃ no, no = w2.heap.size := ⟨_, rfl⟩
  simp only [ndc] at k3 xo
  generalize w2.alloc (.cells #[.int .i64 kind1, .int .i64 ins1, .int .i64 outs1, .slice A1 n1 c1, .int .u64 pa1, .int .u64 pb1, .int .u64 pc1, .int .u64 bd1, cv1, .bool st1] 47) = W3 at *
  rw [← hno2] at xo hno ⊢
  clear hno2 k2 z0 z1 z2 z3 z4 z5 z6 z7 z8 z9
  go_cut [7] (fun s7 wx => s7 = .pointer (some ⟨no, 0, none⟩) ∧ ∃ g cap, DN w wx nb (ndc kind1 ins1 outs1 A1 n1 c1 pa1 pb1 pc1 bd1 cv1 st1) (ndc kind2 ins2 outs2 A2 n2 c2 pa2 pb2 pc2 bd2 cv2 st2) ∧ wx.heap[no]? = some (.cells (ndc kind1 ins1 outs1 (some ⟨g, 0, none⟩) n1 cap pa1 pb1 pc1 bd1 cv1 st1) 47 (0, 0)) ∧ (∃ base, no < base ∧ wx.ownsRow base 29 2 (.slice (some ⟨g, 0, none⟩) (n1 + 1) cap) (n1 + 1) (flatS (l1 ++ [x777]))) ∧ n1 + 1 ≤ cap)
  case first =>
    have kd := k3.then ((Below.refl _ _).drew)
    have xd : W3.drew.heap[no]? = some (.cells (ndc kind1 ins1 outs1 A1 n1 c1 pa1 pb1 pc1 bd1 cv1 st1) 47 (0, 0)) := xo
    clear k3 xo
    refine wp_region_held_drew (S := fun w' => w'.cell? ⟨nb, 3, none⟩ = some (.slice A1 n1 c1)) (by kernel_rfl) (by exact (node_cells kd.x0).2.2.2.1) (fun hHeld => ?_)
    generalize W3.drew = wd at *
    refine take_q (v := ?_) 1 25 rfl rfl ?_ (by assumption) ?_
    rotate_left
    · intro w h; (try dsimp only at h); go_simp; first | done | with_reducible rfl
    try simp only [Act.put, sA, s0, s1]
    refine take_q (v := ?_) 2 26 rfl rfl ?_ (by assumption) ?_
    rotate_left
    · intro w h; (try dsimp only at h); go_simp; first | done | with_reducible rfl
    try simp only [Act.put, sA, s0, s1]
    refine take_q (v := ?_) 4 28 rfl rfl ?_ (by assumption) ?_
    rotate_left
    · intro w h; (try dsimp only at h); go_simp; first | done | with_reducible rfl
    try simp only [Act.put, sA, s0, s1]
    refine take_q (v := ?_) 7 31 rfl rfl ?_ (by assumption) ?_
    rotate_left
    · intro w h; (try dsimp only at h); go_simp; first | done | with_reducible rfl
    try simp only [Act.put, sA, s0, s1]
    refine take_q (v := ?_) 8 32 rfl rfl ?_ (by assumption) ?_
    rotate_left
    · intro w h; (try dsimp only at h); go_simp; first | done | with_reducible rfl
    try simp only [Act.put, sA, s0, s1]
    refine take_q (v := ?_) 9 33 rfl rfl ?_ (by assumption) ?_
    rotate_left
    · intro w h; (try dsimp only at h); go_simp; first | done | with_reducible rfl
    try simp only [Act.put, sA, s0, s1]
    clear hHeld
    obtain ⟨bs, hbs0⟩ : ∃ bs, bs = wd.heap.size := ⟨_, rfl⟩
    have hbs : ∀ W, Below bs wd W → bs ≤ W.heap.size := fun W h => by have := h.size; omega
    have b0 : Below bs wd wd := Below.refl _ _
    have HZ : Hid (∀ W, Below bs wd W → W.cell? ⟨nb, 3, none⟩ = some (.slice A1 n1 c1)) := Lib.hid (fun W hW => (hW.cell (p := ⟨nb, 3, none⟩) (by have := kd.lt; simp only; omega)).trans (node_cells kd.x0).2.2.2.1)
    have HRd : Hid (∀ W, Below bs wd W → Reads W bs 2 A1 n1 (flatS l1)) := Lib.hid (fun W hW => by
      have := (HR1.out.below (HNB.out ▸ kd.be)).2
      rw [← HN1.out, ← hbs0] at this
      exact this.below hW)
    have HSZ : Hid (no < bs) := Lib.hid (by rw [hbs0]; exact blk_lt xd)
    have HXN : Hid (∀ W, Below bs wd W → W.heap[no]? = some (.cells (ndc kind1 ins1 outs1 A1 n1 c1 pa1 pb1 pc1 bd1 cv1 st1) 47 (0, 0))) := Lib.hid (fun W hW => (hW.block no HSZ.out).trans xd)
    have HX3 : Hid (∀ W, Below bs wd W → W.cell? ⟨no, 3, none⟩ = some (.slice A1 n1 c1)) := Lib.hid (fun W hW => (node_cells (HXN.out W hW)).2.2.2.1)
    have HF3 : Hid (∀ W, Below bs wd W → W.frozen? ⟨no, 3, none⟩ = false) := Lib.hid (fun W hW => blk_frozen (HXN.out W hW) 3)
    have HDN : Hid (∀ W, Below bs wd W → DN w W nb (ndc kind1 ins1 outs1 A1 n1 c1 pa1 pb1 pc1 bd1 cv1 st1) (ndc kind2 ins2 outs2 A2 n2 c2 pa2 pb2 pc2 bd2 cv2 st2)) := Lib.hid (fun W hW => kd.then (hbs0 ▸ hW))
    have f1 := flatS_one l1
    have f7 := flatS_one [x777]
    clear kd xd hbs0
    refine wpAnyH_ready (rs := [0, 5]) (by kernel_rfl) (by simp) ?_
    refine AllReadyH.cons rfl (fun K hK => ?_) (AllReadyH.cons rfl (fun K hK => ?_) AllReadyH.nil)
    · skip
      go_simp
      have b1 : Below bs wd (wd.alloc (.cells #[] 29)) := b0.alloc (hbs _ b0) _
      have ow0 : (wd.alloc (.cells #[] 29)).ownsRow bs 29 2 (.slice (some ⟨wd.heap.size, 0, none⟩) 0 0) 0 [] := World.ownsRow_made wd #[] 0 (hbs _ b0) (by decide) (by rfl)
      refine hK.out _ _ (HZ.out _ b1) (fun hHeld => ?_)
      clear hK K hHeld
      try simp only [Act.put, sA, s0, s1]
      obtain ⟨g0, hg0⟩ : ∃ g0, g0 = wd.heap.size := ⟨_, rfl⟩
      rw [← hg0] at ow0  ⊢
      have ow0lt : g0 < (wd.alloc (.cells #[] 29)).heap.size := by rw [hg0]; simp
      clear hg0
      generalize wd.alloc (.cells #[] 29) = Wb1 at *
      refine wpAnyH_ready (rs := [3, 5]) (by kernel_rfl) (by simp) ?_
      refine AllReadyH.cons rfl (fun K hK => ?_) (AllReadyH.cons rfl (fun K hK => ?_) AllReadyH.nil)
      · skip
        refine step_append_any _ rfl (.tmp 24) (.tmp 26) 22 rfl bs 29 i0 _ 2 16 Try.underlying22 hi0 hz0 hzs hz2 rfl (by omega) (.slice (some ⟨g0, 0, none⟩) 0 0) 0 [] rfl ow0 bs A1 n1 c1 (flatS l1) rfl (HRd.out _ b1) f1 (by unfold maxLen; omega) (by omega) (hbs _ b1) ?_
        intro v3 Wb2 ow3 hgrow3 hat3
        obtain ⟨a3, k3c, rfl⟩ := own_shape ow3
        simp only [Nat.zero_add, List.nil_append] at ow3 hat3 ⊢
        have b2 : Below bs wd Wb2 := b1.grown hgrow3 (hbs _ b1) (fun k hk => (ow0.lt k hk).1)
        refine hK.out _ _ (HZ.out _ b2) (fun hHeld => ?_)
        clear hK K hHeld
        try simp only [Act.put, sA, s0, s1]
        clear hgrow3 hat3 ow0
        refine wpAnyH_ready (rs := [5]) (by kernel_rfl) (by simp) ?_
        refine AllReadyH.cons rfl (fun K hK => ?_) AllReadyH.nil
        go_simp
        have b3 : Below bs wd (Wb2.alloc (.cells #[.int .i64 777, .int .u64 0] 29)) := b2.alloc (hbs _ b2) _
        have ow5 : (Wb2.alloc (.cells #[.int .i64 777, .int .u64 0] 29)).ownsRow bs 29 2 (.slice (some ⟨Wb2.heap.size, 0, none⟩) 1 1) 1 (flatS [x777]) := by
          have := World.ownsRow_lit (base := bs) (e := 29) (size := 2) Wb2 #[.int .i64 777, .int .u64 0] 1 (hbs _ b2) (by decide) (by rfl)
          simpa [flatS, cS, x777] using this
        have ow3 := own_below ow3 ((Below.refl Wb2.heap.size Wb2).alloc (Nat.le_refl _) (.cells #[.int .i64 777, .int .u64 0] 29))
        refine hK.out _ _ (HZ.out _ b3) (fun hHeld => ?_)
        clear hK K hHeld
        try simp only [Act.put, sA, s0, s1]
        obtain ⟨g5, hg5⟩ : ∃ g5, g5 = Wb2.heap.size := ⟨_, rfl⟩
        rw [← hg5] at ow5  ⊢
        have ow5lt : g5 < (Wb2.alloc (.cells #[.int .i64 777, .int .u64 0] 29)).heap.size := by rw [hg5]; simp
        clear hg5
        generalize Wb2.alloc (.cells #[.int .i64 777, .int .u64 0] 29) = Wb3 at *
        refine wpAnyH_ready (rs := [6]) (by kernel_rfl) (by simp) ?_
        refine AllReadyH.cons rfl (fun K hK => ?_) AllReadyH.nil
        refine step_append_any _ rfl (.tmp 27) (.tmp 29) 22 rfl bs 29 i0 _ 2 16 Try.underlying22 hi0 hz0 hzs hz2 rfl (by omega) (.slice a3 n1 k3c) n1 (flatS l1) rfl ow3 Wb3.heap.size (some ⟨g5, 0, none⟩) 1 1 (flatS [x777]) rfl (Reads.of_own ow5) f7 (by unfold maxLen; omega) (by omega) (hbs _ b3) ?_
        intro v6 Wb4 ow6 hgrow6 hat6
        obtain ⟨g, cap, rfl, hg6, hg6'⟩ := ow6.form (by omega)
        have hcap := own_cap ow6
        have b4 : Below bs wd Wb4 := b3.grown hgrow6 (hbs _ b3) (fun k hk => (ow3.lt k hk).1)
        refine hK.out _ _ (HZ.out _ b4) (fun hHeld => ?_)
        clear hK K hHeld
        try simp only [Act.put, sA, s0, s1]
        have hx3 : Wb4.cell? ⟨no, 3, none⟩ = some (.slice A1 n1 c1) := HX3.out _ b4
        have hz3 := HZ.out _ b4
        have hf3 := HF3.out _ b4
        have hdn := HDN.out _ b4
        have hxn := HXN.out _ b4
        have hnc : (n1 : Int) ≤ (cap : Int) := by omega
        have hnc2 : n1 ≤ cap := by omega
        have hnog : no < g := by have := HSZ.out; omega
        clear hgrow6 hat6 ow3 ow5
        refine take_q (v := ?_) 10 34 rfl rfl ?_ (by assumption) ?_
        rotate_left
        · intro w h; (try dsimp only at h); go_simp; first | done | with_reducible rfl
        try simp only [Act.put, sA, s0, s1]
        refine take_q (v := ?_) 11 35 rfl rfl ?_ (by assumption) ?_
        rotate_left
        · intro w h; (try dsimp only at h); go_simp; first | done | with_reducible rfl
        try simp only [Act.put, sA, s0, s1]
        refine wpAnyH_ready (rs := [12]) (by kernel_rfl) (by simp) ?_
        refine AllReadyH.cons rfl (fun K hK => ?_) AllReadyH.nil
        go_simp
        go_wp2_with fail
        refine hK.out _ _ (by rw [far (by omega)]; exact HZ.out _ b4) (fun hHeld => ?_)
        clear hK K hHeld
        try simp only [Act.put, sA, s0, s1]
        refine wpAnyH_done (by kernel_rfl) ?_ _
        go_wp2_with fail
        go_meet
        exact ⟨rfl, g, cap, hdn.set hno, by have := blk_set hxn 3 (.slice (some ⟨g, 0, none⟩) n1 cap); simpa using this, ⟨bs, by have := HSZ.out; omega, by rw [flatS_append]; exact ((Fr.refl Wb4 no none).setCell (p := ⟨no, 3, none⟩) (.inl rfl) _).own ow6 (by simp [Value.ownBlock]; omega) (.inr (by simp [Value.ownBlock]))⟩, hcap⟩
      · skip
        go_simp
        have b2 : Below bs wd (Wb1.alloc (.cells #[.int .i64 777, .int .u64 0] 29)) := b1.alloc (hbs _ b1) _
        have ow5 : (Wb1.alloc (.cells #[.int .i64 777, .int .u64 0] 29)).ownsRow bs 29 2 (.slice (some ⟨Wb1.heap.size, 0, none⟩) 1 1) 1 (flatS [x777]) := by
          have := World.ownsRow_lit (base := bs) (e := 29) (size := 2) Wb1 #[.int .i64 777, .int .u64 0] 1 (hbs _ b1) (by decide) (by rfl)
          simpa [flatS, cS, x777] using this
        have ow0 := own_below ow0 ((Below.refl Wb1.heap.size Wb1).alloc (Nat.le_refl _) (.cells #[.int .i64 777, .int .u64 0] 29))
        have hg50 : g0 < Wb1.heap.size := ow0lt
        refine hK.out _ _ (HZ.out _ b2) (fun hHeld => ?_)
        clear hK K hHeld
        try simp only [Act.put, sA, s0, s1]
        obtain ⟨g5, hg5⟩ : ∃ g5, g5 = Wb1.heap.size := ⟨_, rfl⟩
        rw [← hg5] at ow5 hg50 ⊢
        have ow5lt : g5 < (Wb1.alloc (.cells #[.int .i64 777, .int .u64 0] 29)).heap.size := by rw [hg5]; simp
        clear hg5
        generalize Wb1.alloc (.cells #[.int .i64 777, .int .u64 0] 29) = Wb2 at *
        refine wpAnyH_ready (rs := [3]) (by kernel_rfl) (by simp) ?_
        refine AllReadyH.cons rfl (fun K hK => ?_) AllReadyH.nil
        refine step_append_any _ rfl (.tmp 24) (.tmp 26) 22 rfl bs 29 i0 _ 2 16 Try.underlying22 hi0 hz0 hzs hz2 rfl (by omega) (.slice (some ⟨g0, 0, none⟩) 0 0) 0 [] rfl ow0 bs A1 n1 c1 (flatS l1) rfl (HRd.out _ b2) f1 (by unfold maxLen; omega) (by omega) (hbs _ b2) ?_
        intro v3 Wb3 ow3 hgrow3 hat3
        obtain ⟨a3, k3c, rfl⟩ := own_shape ow3
        simp only [Nat.zero_add, List.nil_append] at ow3 hat3 ⊢
        have b3 : Below bs wd Wb3 := b2.grown hgrow3 (hbs _ b2) (fun k hk => (ow0.lt k hk).1)
        have ow5 := ow5.kept hgrow3 (by simp [Value.ownBlock]; omega)
        refine hK.out _ _ (HZ.out _ b3) (fun hHeld => ?_)
        clear hK K hHeld
        try simp only [Act.put, sA, s0, s1]
        clear hgrow3 hat3 ow0
        refine wpAnyH_ready (rs := [6]) (by kernel_rfl) (by simp) ?_
        refine AllReadyH.cons rfl (fun K hK => ?_) AllReadyH.nil
        refine step_append_any _ rfl (.tmp 27) (.tmp 29) 22 rfl bs 29 i0 _ 2 16 Try.underlying22 hi0 hz0 hzs hz2 rfl (by omega) (.slice a3 n1 k3c) n1 (flatS l1) rfl ow3 Wb3.heap.size (some ⟨g5, 0, none⟩) 1 1 (flatS [x777]) rfl (Reads.of_own ow5) f7 (by unfold maxLen; omega) (by omega) (hbs _ b3) ?_
        intro v6 Wb4 ow6 hgrow6 hat6
        obtain ⟨g, cap, rfl, hg6, hg6'⟩ := ow6.form (by omega)
        have hcap := own_cap ow6
        have b4 : Below bs wd Wb4 := b3.grown hgrow6 (hbs _ b3) (fun k hk => (ow3.lt k hk).1)
        refine hK.out _ _ (HZ.out _ b4) (fun hHeld => ?_)
        clear hK K hHeld
        try simp only [Act.put, sA, s0, s1]
        have hx3 : Wb4.cell? ⟨no, 3, none⟩ = some (.slice A1 n1 c1) := HX3.out _ b4
        have hz3 := HZ.out _ b4
        have hf3 := HF3.out _ b4
        have hdn := HDN.out _ b4
        have hxn := HXN.out _ b4
        have hnc : (n1 : Int) ≤ (cap : Int) := by omega
        have hnc2 : n1 ≤ cap := by omega
        have hnog : no < g := by have := HSZ.out; omega
        clear hgrow6 hat6 ow3 ow5
        refine take_q (v := ?_) 10 34 rfl rfl ?_ (by assumption) ?_
        rotate_left
        · intro w h; (try dsimp only at h); go_simp; first | done | with_reducible rfl
        try simp only [Act.put, sA, s0, s1]
        refine take_q (v := ?_) 11 35 rfl rfl ?_ (by assumption) ?_
        rotate_left
        · intro w h; (try dsimp only at h); go_simp; first | done | with_reducible rfl
        try simp only [Act.put, sA, s0, s1]
        refine wpAnyH_ready (rs := [12]) (by kernel_rfl) (by simp) ?_
        refine AllReadyH.cons rfl (fun K hK => ?_) AllReadyH.nil
        go_simp
        go_wp2_with fail
        refine hK.out _ _ (by rw [far (by omega)]; exact HZ.out _ b4) (fun hHeld => ?_)
        clear hK K hHeld
        try simp only [Act.put, sA, s0, s1]
        refine wpAnyH_done (by kernel_rfl) ?_ _
        go_wp2_with fail
        go_meet
        exact ⟨rfl, g, cap, hdn.set hno, by have := blk_set hxn 3 (.slice (some ⟨g, 0, none⟩) n1 cap); simpa using this, ⟨bs, by have := HSZ.out; omega, by rw [flatS_append]; exact ((Fr.refl Wb4 no none).setCell (p := ⟨no, 3, none⟩) (.inl rfl) _).own ow6 (by simp [Value.ownBlock]; omega) (.inr (by simp [Value.ownBlock]))⟩, hcap⟩
    · skip
      go_simp
      have b1 : Below bs wd (wd.alloc (.cells #[.int .i64 777, .int .u64 0] 29)) := b0.alloc (hbs _ b0) _
      have ow5 : (wd.alloc (.cells #[.int .i64 777, .int .u64 0] 29)).ownsRow bs 29 2 (.slice (some ⟨wd.heap.size, 0, none⟩) 1 1) 1 (flatS [x777]) := by
        have := World.ownsRow_lit (base := bs) (e := 29) (size := 2) wd #[.int .i64 777, .int .u64 0] 1 (hbs _ b0) (by decide) (by rfl)
        simpa [flatS, cS, x777] using this
      refine hK.out _ _ (HZ.out _ b1) (fun hHeld => ?_)
      clear hK K hHeld
      try simp only [Act.put, sA, s0, s1]
      obtain ⟨g5, hg5⟩ : ∃ g5, g5 = wd.heap.size := ⟨_, rfl⟩
      rw [← hg5] at ow5  ⊢
      have ow5lt : g5 < (wd.alloc (.cells #[.int .i64 777, .int .u64 0] 29)).heap.size := by rw [hg5]; simp
      clear hg5
      generalize wd.alloc (.cells #[.int .i64 777, .int .u64 0] 29) = Wb1 at *
      refine wpAnyH_ready (rs := [0]) (by kernel_rfl) (by simp) ?_
      refine AllReadyH.cons rfl (fun K hK => ?_) AllReadyH.nil
      go_simp
      have b2 : Below bs wd (Wb1.alloc (.cells #[] 29)) := b1.alloc (hbs _ b1) _
      have ow0 : (Wb1.alloc (.cells #[] 29)).ownsRow bs 29 2 (.slice (some ⟨Wb1.heap.size, 0, none⟩) 0 0) 0 [] := World.ownsRow_made Wb1 #[] 0 (hbs _ b1) (by decide) (by rfl)
      have ow5 := own_below ow5 ((Below.refl Wb1.heap.size Wb1).alloc (Nat.le_refl _) (.cells #[] 29))
      have hg50 : g5 < Wb1.heap.size := (ow5lt)
      refine hK.out _ _ (HZ.out _ b2) (fun hHeld => ?_)
      clear hK K hHeld
      try simp only [Act.put, sA, s0, s1]
      obtain ⟨g0, hg0⟩ : ∃ g0, g0 = Wb1.heap.size := ⟨_, rfl⟩
      rw [← hg0] at ow0 hg50 ⊢
      have ow0lt : g0 < (Wb1.alloc (.cells #[] 29)).heap.size := by rw [hg0]; simp
      clear hg0
      generalize Wb1.alloc (.cells #[] 29) = Wb2 at *
      refine wpAnyH_ready (rs := [3]) (by kernel_rfl) (by simp) ?_
      refine AllReadyH.cons rfl (fun K hK => ?_) AllReadyH.nil
      refine step_append_any _ rfl (.tmp 24) (.tmp 26) 22 rfl bs 29 i0 _ 2 16 Try.underlying22 hi0 hz0 hzs hz2 rfl (by omega) (.slice (some ⟨g0, 0, none⟩) 0 0) 0 [] rfl ow0 bs A1 n1 c1 (flatS l1) rfl (HRd.out _ b2) f1 (by unfold maxLen; omega) (by omega) (hbs _ b2) ?_
      intro v3 Wb3 ow3 hgrow3 hat3
      obtain ⟨a3, k3c, rfl⟩ := own_shape ow3
      simp only [Nat.zero_add, List.nil_append] at ow3 hat3 ⊢
      have b3 : Below bs wd Wb3 := b2.grown hgrow3 (hbs _ b2) (fun k hk => (ow0.lt k hk).1)
      have ow5 := ow5.kept hgrow3 (by simp [Value.ownBlock]; omega)
      refine hK.out _ _ (HZ.out _ b3) (fun hHeld => ?_)
      clear hK K hHeld
      try simp only [Act.put, sA, s0, s1]
      clear hgrow3 hat3 ow0
      refine wpAnyH_ready (rs := [6]) (by kernel_rfl) (by simp) ?_
      refine AllReadyH.cons rfl (fun K hK => ?_) AllReadyH.nil
      refine step_append_any _ rfl (.tmp 27) (.tmp 29) 22 rfl bs 29 i0 _ 2 16 Try.underlying22 hi0 hz0 hzs hz2 rfl (by omega) (.slice a3 n1 k3c) n1 (flatS l1) rfl ow3 Wb3.heap.size (some ⟨g5, 0, none⟩) 1 1 (flatS [x777]) rfl (Reads.of_own ow5) f7 (by unfold maxLen; omega) (by omega) (hbs _ b3) ?_
      intro v6 Wb4 ow6 hgrow6 hat6
      obtain ⟨g, cap, rfl, hg6, hg6'⟩ := ow6.form (by omega)
      have hcap := own_cap ow6
      have b4 : Below bs wd Wb4 := b3.grown hgrow6 (hbs _ b3) (fun k hk => (ow3.lt k hk).1)
      refine hK.out _ _ (HZ.out _ b4) (fun hHeld => ?_)
      clear hK K hHeld
      try simp only [Act.put, sA, s0, s1]
      have hx3 : Wb4.cell? ⟨no, 3, none⟩ = some (.slice A1 n1 c1) := HX3.out _ b4
      have hz3 := HZ.out _ b4
      have hf3 := HF3.out _ b4
      have hdn := HDN.out _ b4
      have hxn := HXN.out _ b4
      have hnc : (n1 : Int) ≤ (cap : Int) := by omega
      have hnc2 : n1 ≤ cap := by omega
      have hnog : no < g := by have := HSZ.out; omega
      clear hgrow6 hat6 ow3 ow5
      refine take_q (v := ?_) 10 34 rfl rfl ?_ (by assumption) ?_
      rotate_left
      · intro w h; (try dsimp only at h); go_simp; first | done | with_reducible rfl
      try simp only [Act.put, sA, s0, s1]
      refine take_q (v := ?_) 11 35 rfl rfl ?_ (by assumption) ?_
      rotate_left
      · intro w h; (try dsimp only at h); go_simp; first | done | with_reducible rfl
      try simp only [Act.put, sA, s0, s1]
      refine wpAnyH_ready (rs := [12]) (by kernel_rfl) (by simp) ?_
      refine AllReadyH.cons rfl (fun K hK => ?_) AllReadyH.nil
      go_simp
      go_wp2_with fail
      refine hK.out _ _ (by rw [far (by omega)]; exact HZ.out _ b4) (fun hHeld => ?_)
      clear hK K hHeld
      try simp only [Act.put, sA, s0, s1]
      refine wpAnyH_done (by kernel_rfl) ?_ _
      go_wp2_with fail
      go_meet
      exact ⟨rfl, g, cap, hdn.set hno, by have := blk_set hxn 3 (.slice (some ⟨g, 0, none⟩) n1 cap); simpa using this, ⟨bs, by have := HSZ.out; omega, by rw [flatS_append]; exact ((Fr.refl Wb4 no none).setCell (p := ⟨no, 3, none⟩) (.inl rfl) _).own ow6 (by simp [Value.ownBlock]; omega) (.inr (by simp [Value.ownBlock]))⟩, hcap⟩
  case rest =>
  obtain ⟨rfl, g, cap, k4, xo, ⟨bs, hbs, ow⟩, hcap⟩ := hcut
  clear k3
  obtain ⟨W4, hW4⟩ : ∃ W, W = wc := ⟨_, rfl⟩
  subst hW4
  have hrow1 : Row W4 (some ⟨g, 0, none⟩) l1 := own_row ow (by rw [← HN1.out]; omega)
  have ⟨z0, z1, z2, z3, z4, z5, z6, z7, z8, z9⟩ := node_cells (kd := kind1) (ins := ins1) (outs := outs1) (pa := pa1) (pb := pb1) (pc := pc1) (bd := bd1) (cv := cv1) (st := st1) xo
  go_upto_region 6 with (go_at_call 21; refine (hnew1 (some ⟨g, 0, none⟩) cap _ hrow1 (by omega)).mono ?_; rintro e w5 ⟨v1, rfl, b5, h5⟩)
  have k5 := k4.then b5
  have hgW : g < W4.heap.size := (ow.lt g rfl).2
  have hgW2 : bs ≤ g := (ow.lt g rfl).1
  have xo5 := blk_below xo b5
  have ow5 := own_below ow b5
  clear k4 hrow1 xo ow hnew1 z0 z1 z2 z3 z4 z5 z6 z7 z8 z9
  have f1 := FlowOr.of hb1 h5
  have q1 := fun W => f1.eqn W
  have p1 := fun x W => f1.eqg x W
  clear h5
  obtain ⟨bo, hbo⟩ : ∃ bo, bo = W4.heap.size := ⟨_, rfl⟩
  rw [← hbo] at hgW f1
  have hbo5 : bo ≤ w5.heap.size := by rw [hbo]; exact b5.size
  clear b5 hbo
  have ⟨z0, z1, z2, z3, z4, z5, z6, z7, z8, z9⟩ := node_cells (kd := kind2) (ins := ins2) (outs := outs2) (pa := pa2) (pb := pb2) (pc := pc2) (bd := bd2) (cv := cv2) (st := st2) k5.x1
  go_upto_region 7 with (go_at_call 21; refine (hnew2 _ k5.be).mono ?_; rintro e w6 ⟨v2, rfl, b6, h6⟩)
  have f2 := FlowOr.of hb2 h6
  have q2 := fun W => f2.eqn W
  have p2 := fun x W => f2.eqg x W
  clear h6
  have k6 := k5.then b6
  have xo6 := blk_below xo5 b6
  have ow6 := own_below ow5 b6
  have f1 := f1.below b6
  have hbo6 : bo ≤ w6.heap.size := Nat.le_trans hbo5 b6.size
  clear k5 xo5 ow5 b6 hnew2 z0 z1 z2 z3 z4 z5 z6 z7 z8 z9
  have ⟨z0, z1, z2, z3, z4, z5, z6, z7, z8, z9⟩ := node_cells (kd := kind1) (ins := ins1) (outs := outs1) (pa := pa1) (pb := pb1) (pc := pc1) (bd := bd1) (cv := cv1) (st := st1) k6.x0
  have ⟨y0, y1, y2, y3, y4, y5, y6, y7, y8, y9⟩ := node_cells (kd := kind2) (ins := ins2) (outs := outs2) (pa := pa2) (pb := pb2) (pc := pc2) (bd := bd2) (cv := cv2) (st := st2) k6.x1
  go_upto_region 9 with fail
  refine (hrn1 _ k6.be).mono ?_
  rintro e w7 ⟨rfl, b7⟩
  have k7 := k6.then b7
  have xo7 := blk_below xo6 b7
  have ow7 := own_below ow6 b7
  have f1 := f1.below b7
  have f2 := f2.below b7
  have hbo7 : bo ≤ w7.heap.size := Nat.le_trans hbo6 b7.size
  clear k6 xo6 ow6 b7 hrn1 z0 z1 z2 z3 z4 z5 z6 z7 z8 z9 y0 y1 y2 y3 y4 y5 y6 y7 y8 y9
  have ⟨z0, z1, z2, z3, z4, z5, z6, z7, z8, z9⟩ := node_cells (kd := kind1) (ins := ins1) (outs := outs1) (pa := pa1) (pb := pb1) (pc := pc1) (bd := bd1) (cv := cv1) (st := st1) k7.x0
  have ⟨y0, y1, y2, y3, y4, y5, y6, y7, y8, y9⟩ := node_cells (kd := kind2) (ins := ins2) (outs := outs2) (pa := pa2) (pb := pb2) (pc := pc2) (bd := bd2) (cv := cv2) (st := st2) k7.x1
  go_upto_region 9 with fail
  refine (hrn2 _ k7.be).mono ?_
  rintro e w8 ⟨rfl, b8⟩
  have k8 := k7.then b8
  have xo8 := blk_below xo7 b8
  have ow8 := own_below ow7 b8
  have f1 := f1.below b8
  have f2 := f2.below b8
  have hbo8 : bo ≤ w8.heap.size := Nat.le_trans hbo7 b8.size
  clear k7 xo7 ow7 b8 hrn2 z0 z1 z2 z3 z4 z5 z6 z7 z8 z9 y0 y1 y2 y3 y4 y5 y6 y7 y8 y9
  go_upto_region 9 with fail
  have ⟨z0, z1, z2, z3, z4, z5, z6, z7, z8, z9⟩ := node_cells (kd := kind1) (ins := ins1) (outs := outs1) (pa := pa1) (pb := pb1) (pc := pc1) (bd := bd1) (cv := cv1) (st := st1) k8.x0
  have ⟨y0, y1, y2, y3, y4, y5, y6, y7, y8, y9⟩ := node_cells (kd := kind1) (ins := ins1) (outs := outs1) (pa := pa1) (pb := pb1) (pc := pc1) (bd := bd1) (cv := cv1) (st := st1) xo8
  have hw1 : IntKind.i64.wrap ((n1 : Int) + 1) = ((n1 + 1 : Nat) : Int) := by rw [IntKind.wrap_i64]; omega
  have hc1' : ((n1 + 1 : Nat) : Int) ≤ (cap : Int) := by omega
  go_upto_region 10 with fail
  clear z0 z1 z2 z3 z4 z5 z6 z7 z8 z9 y0 y1 y2 y3 y4 y5 y6 y7 y8 y9
  have K8 := Lib.hid k8
  have X8 := Lib.hid xo8
  have O8 := Lib.hid ow8
  have B8 := Lib.hid hbo8
  have F1 := Lib.hid f1
  have F2 := Lib.hid f2
  have HW5 := Lib.hid hbo5
  clear k8 xo8 ow8 hbo8 f1 f2
  go_wp2_with fail
  go_loopw [13] (fun s13 wr => ∃ (i : Nat) (L : List S29), s13 = .int .i64 i ∧ i ≤ n1 ∧ Hid (L.length = n1 ∧ ∀ j, i ≤ j → L[j]? = l1[j]?) ∧ Hid (DN w wr nb (ndc kind1 ins1 outs1 A1 n1 c1 pa1 pb1 pc1 bd1 cv1 st1) (ndc kind2 ins2 outs2 A2 n2 c2 pa2 pb2 pc2 bd2 cv2 st2)) ∧ Hid (wr.heap[no]? = some (.cells (ndc kind1 ins1 outs1 (some ⟨g, 0, none⟩) n1 cap pa1 pb1 pc1 bd1 cv1 st1) 47 (0, 0))) ∧ Hid (wr.ownsRow bs 29 2 (.slice (some ⟨g, 0, none⟩) (n1 + 1) cap) (n1 + 1) (flatS (L ++ [x777]))) ∧ Hid (FlowOr wr bo v1 true kind1 l1 ⟨pa1, pb1, pc1⟩ bd1) ∧ Hid (FlowOr wr w5.heap.size v2 b2 kind2 l2 ⟨pa2, pb2, pc2⟩ bd2)) (fun s13 wr => n1 - (intOf s13).toNat)
  case atStart => exact ⟨0, l1, rfl, by omega, Lib.hid ⟨HN1.out.symm, fun _ _ => rfl⟩, K8, X8, O8, F1, F2⟩
  case round =>
    clear K8 X8 O8 B8 F1 F2
    obtain ⟨i, L, rfl, hi, HL, K, X, O, F1, F2⟩ := hrel
    by_cases hlt : i < n1
    · obtain ⟨gl, ol, rfl⟩ := hla1 (by omega)
      have hil : i < l1.length := by rw [← HN1.out]; exact hlt
      have hiL : i < L.length := by rw [HL.out.1]; exact hlt
      have hle : L[i] = l1[i] := by
        have := HL.out.2 i (Nat.le_refl _)
        rw [List.getElem?_eq_getElem hiL, List.getElem?_eq_getElem hil] at this
        injection this
      have hrd := (HR1.out.below (HNB.out ▸ K.out.be)).2.2 (by omega)
      obtain ⟨ad, had, _, hcl⟩ := hrd
      injection had with had
      subst had
      have hadd : ∀ j, (⟨gl, ol, none⟩ : Addr).add j = ⟨gl, ol + j, none⟩ := fun j => by unfold Addr.add; split <;> simp_all
      have c0 := hcl (i * 2 + 0) _ (by rw [flatS_get l1 i 0 hil (by omega)]; rfl)
      have c1' := hcl (i * 2 + 1) _ (by rw [flatS_get l1 i 1 hil (by omega)]; rfl)
      have hiL2 : i < (L ++ [x777]).length := by simp; omega
      have hgL : (L ++ [x777])[i] = l1[i] := by rw [List.getElem_append_left hiL, hle]
      have o0 : wr.cell? ⟨g, i * 2, none⟩ = some (.int .i64 l1[i].f0) := by
        rw [O.out.cellAt (i * 2) (by omega)]
        have := flatS_get (L ++ [x777]) i 0 hiL2 (by omega)
        rw [hgL] at this
        exact this
      have o1 : wr.cell? ⟨g, i * 2 + 1, none⟩ = some (.int .u64 l1[i].f1) := by
        rw [O.out.cellAt (i * 2 + 1) (by omega)]
        have := flatS_get (L ++ [x777]) i 1 hiL2 (by omega)
        rw [hgL] at this
        exact this
      have fz0 := O.out.frozenAt (i * 2)
      have fz1 := O.out.frozenAt (i * 2 + 1)
      rw [hadd] at c0 c1'
      simp only [Nat.add_zero, ← Nat.add_assoc] at c0 c1'
      generalize l1[i] = x at c0 c1' o0 o1
      obtain ⟨xk, xa⟩ := x
      simp only at c0 c1' o0 o1
      clear hcl hgL hle hadd
      have ⟨z0, z1, z2, z3, z4, z5, z6, z7, z8, z9⟩ := node_cells (kd := kind1) (ins := ins1) (outs := outs1) (pa := pa1) (pb := pb1) (pc := pc1) (bd := bd1) (cv := cv1) (st := st1) K.out.x0
      have ⟨y0, y1, y2, y3, y4, y5, y6, y7, y8, y9⟩ := node_cells (kd := kind1) (ins := ins1) (outs := outs1) (pa := pa1) (pb := pb1) (pc := pc1) (bd := bd1) (cv := cv1) (st := st1) X.out
      go_upto_region 13 with fail
      go_quiet (fail)
      clear c0 c1'
      go_wp2_with fail
      have K2 := (K.out.then (below_drewN (Below.refl _ _) nq))
      have X2 : (wr.drewN nq).heap[no]? = some (.cells (ndc kind1 ins1 outs1 (some ⟨g, 0, none⟩) n1 cap pa1 pb1 pc1 bd1 cv1 st1) 47 (0, 0)) := X.out
      have O2 : (wr.drewN nq).ownsRow bs 29 2 (.slice (some ⟨g, 0, none⟩) (n1 + 1) cap) (n1 + 1) (flatS (L ++ [x777])) := O.out
      have hS2 : wr.heap.size ≤ (((wr.drewN nq).setCell ⟨g, i * 2, none⟩ (.int .i64 (-9))).setCell ⟨g, i * 2 + 1, none⟩ (.int .u64 0)).heap.size := by simp [World.setCell, World.drewN]
      have hK2 : ∀ q : Addr, bo ≤ q.block → (((wr.drewN nq).setCell ⟨g, i * 2, none⟩ (.int .i64 (-9))).setCell ⟨g, i * 2 + 1, none⟩ (.int .u64 0)).cell? q = wr.cell? q := fun q hq => by
        rw [World.cell?_setCell_other _ _ _ _ (fun e => by subst e; simp only at hq; omega), World.cell?_setCell_other _ _ _ _ (fun e => by subst e; simp only at hq; omega)]
        rfl
      go_roundw
      case rel =>
        refine ⟨i + 1, L.set i xm9, by go_num, by omega, Lib.hid ⟨by rw [List.length_set]; exact HL.out.1, fun j hj => by rw [List.getElem?_set_ne (by omega)]; exact HL.out.2 j (by omega)⟩, Lib.hid ((K2.set (by omega)).set (by omega)),
          Lib.hid (blk_far (blk_far X2 (by simp only; omega) _) (by simp only; omega) _), Lib.hid ?_, Lib.hid (F1.out.keep hS2 fun q hq _ => hK2 q hq), Lib.hid (F2.out.keep hS2 fun q hq _ => hK2 q (Nat.le_trans HW5.out hq))⟩
        have := (((O2.stored (i * 2) (.int .i64 (-9))).1).stored (i * 2 + 1) (.int .u64 0)).1
        have hs := flatS_set (L ++ [x777]) i hiL2 xm9
        rw [List.set_append_left _ _ hiL] at hs
        rw [← hs]
        exact this
      case measure => simp [intOf]; omega
    · have hin : i = n1 := by omega
      subst hin
      have ⟨z0, z1, z2, z3, z4, z5, z6, z7, z8, z9⟩ := node_cells (kd := kind1) (ins := ins1) (outs := outs1) (pa := pa1) (pb := pb1) (pc := pc1) (bd := bd1) (cv := cv1) (st := st1) K.out.x0
      have ⟨y0, y1, y2, y3, y4, y5, y6, y7, y8, y9⟩ := node_cells (kd := kind1) (ins := ins1) (outs := outs1) (pa := pa1) (pb := pb1) (pc := pc1) (bd := bd1) (cv := cv1) (st := st1) X.out
      have o7 : wr.cell? ⟨g, i * 2, none⟩ = some (.int .i64 777) := by
        rw [O.out.cellAt (i * 2) (by omega)]
        have := flatS_get (L ++ [x777]) i 0 (by have := HL.out.1; simp; omega) (by omega)
        have h7 : (L ++ [x777])[i]'(by have := HL.out.1; simp; omega) = x777 := by
          have := HL.out.1
          rw [List.getElem_append_right (by omega)]
          simp [this]
        rw [h7] at this
        exact this
      have hii : (i : Int) < ((i + 1 : Nat) : Int) := by omega
      go_upto_region 18 with fail
      clear o7 hii O X HL z0 z1 z2 z3 z4 z5 z6 z7 z8 z9 y0 y1 y2 y3 y4 y5 y6 y7 y8 y9
      have z0 : wr.cell? ⟨nb, 0, none⟩ = some (.int .i64 kind1) := (node_cells (kd := kind1) (ins := ins1) (outs := outs1) (pa := pa1) (pb := pb1) (pc := pc1) (bd := bd1) (cv := cv1) (st := st1) K.out.x0).1
      have y0 : wr.cell? ⟨nb + 1, 0, none⟩ = some (.int .i64 kind2) := (node_cells (kd := kind2) (ins := ins2) (outs := outs2) (pa := pa2) (pb := pb2) (pc := pc2) (bd := bd2) (cv := cv2) (st := st2) K.out.x1).1
      go_cut [127] (fun s wx => s = .bool false ∧ Below wr.heap.size wr wx)
      case first =>
        have k0 : Below wr.heap.size wr wr.drew := (Below.refl _ _).drew
        have hzz : ∀ W, Below wr.heap.size wr W → W.cell? ⟨nb, 0, none⟩ = some (.int .i64 kind1) ∧ W.cell? ⟨nb + 1, 0, none⟩ = some (.int .i64 kind2) := fun W hW =>
          ⟨(hW.cell (p := ⟨nb, 0, none⟩) (by have := K.out.lt; simp only; omega)).trans z0, (hW.cell (p := ⟨nb + 1, 0, none⟩) (by have := K.out.lt; simp only; omega)).trans y0⟩
        have HZZ := Lib.hid hzz
        clear hzz
        refine wp_region_held_drew (S := fun w' => w'.cell? ⟨nb, 0, none⟩ = some (.int .i64 kind1) ∧ w'.cell? ⟨nb + 1, 0, none⟩ = some (.int .i64 kind2)) (by kernel_rfl) ⟨z0, y0⟩ (fun hHeld => ?_)
        rcases F1.out with ⟨hbq, g1⟩ | ⟨hbq, rfl⟩
        · cases hbq
        · skip
          rcases F2.out with ⟨rfl, g2⟩ | ⟨rfl, rfl⟩
          · skip
            obtain ⟨T2, x2, rfl⟩ := g2.form
            refine take_q (v := ?_) 0 108 rfl rfl ?_ (by assumption) ?_
            rotate_left
            · intro w h; (try dsimp only at h); go_simp; first | done | with_reducible rfl
            try simp only [Act.put, sA, s0, s1]
            refine take_q (v := ?_) 1 109 rfl rfl ?_ (by assumption) ?_
            rotate_left
            · intro w h; (try dsimp only at h); go_simp; first | done | with_reducible rfl
            try simp only [Act.put, sA, s0, s1]
            refine take_q (v := ?_) 2 110 rfl rfl ?_ (by assumption) ?_
            rotate_left
            · intro w h; (try dsimp only at h); go_simp; first | done | with_reducible rfl
            try simp only [Act.put, sA, s0, s1]
            refine off_q 3 111 rfl rfl (by assumption) ?_
            try simp only [Act.put, sA, s0, s1]
            refine off_q 4 112 rfl rfl (by assumption) ?_
            try simp only [Act.put, sA, s0, s1]
            refine off_q 5 113 rfl rfl (by assumption) ?_
            try simp only [Act.put, sA, s0, s1]
            refine off_q 6 114 rfl rfl (by assumption) ?_
            try simp only [Act.put, sA, s0, s1]
            refine off_q 7 115 rfl rfl (by assumption) ?_
            try simp only [Act.put, sA, s0, s1]
            refine take_q (v := ?_) 8 116 rfl rfl ?_ (by assumption) ?_
            rotate_left
            · intro w h; (try dsimp only at h); go_simp; first | done | with_reducible rfl
            try simp only [Act.put, sA, s0, s1]
            refine take_q (v := ?_) 9 117 rfl rfl ?_ (by assumption) ?_
            rotate_left
            · intro w h; (try dsimp only at h); go_simp; first | done | with_reducible rfl
            try simp only [Act.put, sA, s0, s1]
            refine take_q (v := ?_) 10 118 rfl rfl ?_ (by assumption) ?_
            rotate_left
            · intro w h; (try dsimp only at h); go_simp; first | done | with_reducible rfl
            try simp only [Act.put, sA, s0, s1]
            refine take_q (v := ?_) 11 119 rfl rfl ?_ (by assumption) ?_
            rotate_left
            · intro w h; (try dsimp only at h); go_simp; first | done | with_reducible rfl
            try simp only [Act.put, sA, s0, s1]
            refine take_q (v := ?_) 12 120 rfl rfl ?_ (by assumption) ?_
            rotate_left
            · intro w h; (try dsimp only at h); go_simp; first | done | with_reducible rfl
            try simp only [Act.put, sA, s0, s1]
            refine take_q (v := ?_) 13 121 rfl rfl ?_ (by assumption) ?_
            rotate_left
            · intro w h; (try dsimp only at h); go_simp; first | done | with_reducible rfl
            try simp only [Act.put, sA, s0, s1]
            refine take_q (v := ?_) 15 123 rfl rfl ?_ (by assumption) ?_
            rotate_left
            · intro w h; (try dsimp only at h); go_simp; first | done | with_reducible rfl
            try simp only [Act.put, sA, s0, s1]
            refine take_q (v := ?_) 16 124 rfl rfl ?_ (by assumption) ?_
            rotate_left
            · intro w h; (try dsimp only at h); go_simp; first | done | with_reducible rfl
            try simp only [Act.put, sA, s0, s1]
            refine wpAnyH_ready (rs := [14]) (by kernel_rfl) (by simp) ?_
            refine AllReadyH.cons rfl (fun K hK => ?_) AllReadyH.nil
            go_simp
            (go_at_call 20; refine (g2.kindOf _).mono ?_; rintro e wb ⟨rfl, bb⟩; have k2 : Below wr.heap.size wr wb := k0.trans (bb.mono k0.size))
            go_wp2_with fail
            refine hK.out _ _ (HZZ.out _ k2) (fun hHeld => ?_)
            clear hK K
            try simp only [Act.put, sA, s0, s1]
            refine take_q (v := ?_) 17 125 rfl rfl ?_ (by assumption) ?_
            rotate_left
            · intro w h; (try dsimp only at h); go_simp; first | done | with_reducible rfl
            try simp only [Act.put, sA, s0, s1]
            refine take_q (v := ?_) 18 126 rfl rfl ?_ (by assumption) ?_
            rotate_left
            · intro w h; (try dsimp only at h); go_simp; first | done | with_reducible rfl
            try simp only [Act.put, sA, s0, s1]
            refine take_q (v := ?_) 19 127 rfl rfl ?_ (by assumption) ?_
            rotate_left
            · intro w h; (try dsimp only at h); go_simp; first | done | with_reducible rfl
            try simp only [Act.put, sA, s0, s1]
            refine wpAnyH_done (by kernel_rfl) ?_ _
            go_wp2_with fail
            go_meet
            exact ⟨by simp, k2⟩
          · skip
            refine take_q (v := ?_) 0 108 rfl rfl ?_ (by assumption) ?_
            rotate_left
            · intro w h; (try dsimp only at h); go_simp; first | done | with_reducible rfl
            try simp only [Act.put, sA, s0, s1]
            refine take_q (v := ?_) 1 109 rfl rfl ?_ (by assumption) ?_
            rotate_left
            · intro w h; (try dsimp only at h); go_simp; first | done | with_reducible rfl
            try simp only [Act.put, sA, s0, s1]
            refine take_q (v := ?_) 2 110 rfl rfl ?_ (by assumption) ?_
            rotate_left
            · intro w h; (try dsimp only at h); go_simp; first | done | with_reducible rfl
            try simp only [Act.put, sA, s0, s1]
            refine off_q 3 111 rfl rfl (by assumption) ?_
            try simp only [Act.put, sA, s0, s1]
            refine off_q 4 112 rfl rfl (by assumption) ?_
            try simp only [Act.put, sA, s0, s1]
            refine off_q 5 113 rfl rfl (by assumption) ?_
            try simp only [Act.put, sA, s0, s1]
            refine off_q 6 114 rfl rfl (by assumption) ?_
            try simp only [Act.put, sA, s0, s1]
            refine off_q 7 115 rfl rfl (by assumption) ?_
            try simp only [Act.put, sA, s0, s1]
            refine take_q (v := ?_) 8 116 rfl rfl ?_ (by assumption) ?_
            rotate_left
            · intro w h; (try dsimp only at h); go_simp; first | done | with_reducible rfl
            try simp only [Act.put, sA, s0, s1]
            refine take_q (v := ?_) 9 117 rfl rfl ?_ (by assumption) ?_
            rotate_left
            · intro w h; (try dsimp only at h); go_simp; first | done | with_reducible rfl
            try simp only [Act.put, sA, s0, s1]
            refine take_q (v := ?_) 10 118 rfl rfl ?_ (by assumption) ?_
            rotate_left
            · intro w h; (try dsimp only at h); go_simp; first | done | with_reducible rfl
            try simp only [Act.put, sA, s0, s1]
            refine take_q (v := ?_) 11 119 rfl rfl ?_ (by assumption) ?_
            rotate_left
            · intro w h; (try dsimp only at h); go_simp; first | done | with_reducible rfl
            try simp only [Act.put, sA, s0, s1]
            refine take_q (v := ?_) 12 120 rfl rfl ?_ (by assumption) ?_
            rotate_left
            · intro w h; (try dsimp only at h); go_simp; first | done | with_reducible rfl
            try simp only [Act.put, sA, s0, s1]
            refine off_q 13 121 rfl rfl (by assumption) ?_
            try simp only [Act.put, sA, s0, s1]
            refine off_q 14 122 rfl rfl (by assumption) ?_
            try simp only [Act.put, sA, s0, s1]
            refine off_q 15 123 rfl rfl (by assumption) ?_
            try simp only [Act.put, sA, s0, s1]
            refine off_q 16 124 rfl rfl (by assumption) ?_
            try simp only [Act.put, sA, s0, s1]
            refine off_q 17 125 rfl rfl (by assumption) ?_
            try simp only [Act.put, sA, s0, s1]
            refine take_q (v := ?_) 18 126 rfl rfl ?_ (by assumption) ?_
            rotate_left
            · intro w h; (try dsimp only at h); go_simp; first | done | with_reducible rfl
            try simp only [Act.put, sA, s0, s1]
            refine take_q (v := ?_) 19 127 rfl rfl ?_ (by assumption) ?_
            rotate_left
            · intro w h; (try dsimp only at h); go_simp; first | done | with_reducible rfl
            try simp only [Act.put, sA, s0, s1]
            refine wpAnyH_done (by kernel_rfl) ?_ _
            go_wp2_with fail
            go_meet
            exact ⟨by simp, k0⟩
      case rest =>
      obtain ⟨rfl, kx⟩ := hcut
      obtain ⟨W9, hW9⟩ : ∃ W, W = wc := ⟨_, rfl⟩
      subst hW9
      have K9 := Lib.hid (K.out.then kx)
      have F1 := Lib.hid (F1.out.below kx)
      have F2 := Lib.hid (F2.out.below kx)
      clear z0 y0 kx K
      go_wp2_with fail
      go_loopw [14] (fun s14 wr => ∃ (j : Nat), s14 = .int .i64 j ∧ j ≤ m ∧ Hid (DN w wr nb (ndc kind1 ins1 outs1 A1 i c1 pa1 pb1 pc1 bd1 cv1 st1) (ndc kind2 ins2 outs2 A2 n2 c2 pa2 pb2 pc2 bd2 cv2 st2)) ∧ Hid (FlowOr wr bo v1 true kind1 l1 ⟨pa1, pb1, pc1⟩ bd1) ∧ Hid (FlowOr wr w5.heap.size v2 b2 kind2 l2 ⟨pa2, pb2, pc2⟩ bd2)) (fun s14 _ => m - (intOf s14).toNat)
      case atStart => exact ⟨0, rfl, by omega, K9, F1, F2⟩
      case round =>
        clear K9 F1 F2
        obtain ⟨j, rfl, hj, K, F1, F2⟩ := hrel
        by_cases hlt : j < m
        · obtain ⟨ga, oa, rfl, hga, hcq⟩ := HQS.out (by omega)
          have hjq : j < qs.length := by rw [← HQ.out]; exact hlt
          have hok := hqk _ (List.getElem_mem hjq)
          have hcq := hcq j hjq
          generalize qs[j] = q at hcq hok
          obtain ⟨⟨ta, tb, tc⟩, qa, qb⟩ := q
          obtain ⟨q0, q1, q2, q3, q4⟩ := hcq
          have hkq : ∀ k, wr.cell? ⟨ga, k, none⟩ = w.cell? ⟨ga, k, none⟩ := fun k => K.out.be.cell (p := ⟨ga, k, none⟩) (by have := HNB.out; simp only; omega)
          rw [← hkq] at q0 q1 q2 q3 q4
          dsimp only at q0 q1 q2 q3 q4
          have ⟨z0, z1, z2, z3, z4, z5, z6, z7, z8, z9⟩ := node_cells (kd := kind1) (ins := ins1) (outs := outs1) (pa := pa1) (pb := pb1) (pc := pc1) (bd := bd1) (cv := cv1) (st := st1) K.out.x0
          have ⟨y0, y1, y2, y3, y4, y5, y6, y7, y8, y9⟩ := node_cells (kd := kind2) (ins := ins2) (outs := outs2) (pa := pa2) (pb := pb2) (pc := pc2) (bd := bd2) (cv := cv2) (st := st2) K.out.x1
          have hss : ∀ w', Below wr.heap.size wr w' → w'.cell? ⟨nb, 0, none⟩ = some (.int .i64 kind1) ∧ w'.cell? ⟨nb, 1, none⟩ = some (.int .i64 ins1) ∧ w'.cell? ⟨nb, 2, none⟩ = some (.int .i64 outs1) ∧ w'.cell? ⟨nb, 3, none⟩ = some (.slice A1 i c1) ∧ w'.cell? ⟨nb, 4, none⟩ = some (.int .u64 pa1) ∧ w'.cell? ⟨nb, 5, none⟩ = some (.int .u64 pb1) ∧ w'.cell? ⟨nb, 6, none⟩ = some (.int .u64 pc1) ∧ w'.cell? ⟨nb, 7, none⟩ = some (.int .u64 bd1) ∧ w'.cell? ⟨nb, 8, none⟩ = some (cv1) ∧ w'.cell? ⟨nb, 9, none⟩ = some (.bool st1) ∧ w'.cell? ⟨nb + 1, 0, none⟩ = some (.int .i64 kind2) ∧ w'.cell? ⟨nb + 1, 1, none⟩ = some (.int .i64 ins2) ∧ w'.cell? ⟨nb + 1, 2, none⟩ = some (.int .i64 outs2) ∧ w'.cell? ⟨nb + 1, 3, none⟩ = some (.slice A2 n2 c2) ∧ w'.cell? ⟨nb + 1, 4, none⟩ = some (.int .u64 pa2) ∧ w'.cell? ⟨nb + 1, 5, none⟩ = some (.int .u64 pb2) ∧ w'.cell? ⟨nb + 1, 6, none⟩ = some (.int .u64 pc2) ∧ w'.cell? ⟨nb + 1, 7, none⟩ = some (.int .u64 bd2) ∧ w'.cell? ⟨nb + 1, 8, none⟩ = some (cv2) ∧ w'.cell? ⟨nb + 1, 9, none⟩ = some (.bool st2) ∧ w'.cell? ⟨ga, oa + j * 5, none⟩ = some (.int .u64 ta) ∧ w'.cell? ⟨ga, oa + j * 5 + 1, none⟩ = some (.int .u64 tb) ∧ w'.cell? ⟨ga, oa + j * 5 + 2, none⟩ = some (.int .u64 tc) ∧ w'.cell? ⟨ga, oa + j * 5 + 3, none⟩ = some (.int .u64 qa) ∧ w'.cell? ⟨ga, oa + j * 5 + 4, none⟩ = some (.int .u64 qb) := fun w' hW =>
            ⟨(hW.cell (p := ⟨nb, 0, none⟩) (by have := K.out.lt; simp only; omega)).trans z0, (hW.cell (p := ⟨nb, 1, none⟩) (by have := K.out.lt; simp only; omega)).trans z1, (hW.cell (p := ⟨nb, 2, none⟩) (by have := K.out.lt; simp only; omega)).trans z2, (hW.cell (p := ⟨nb, 3, none⟩) (by have := K.out.lt; simp only; omega)).trans z3, (hW.cell (p := ⟨nb, 4, none⟩) (by have := K.out.lt; simp only; omega)).trans z4, (hW.cell (p := ⟨nb, 5, none⟩) (by have := K.out.lt; simp only; omega)).trans z5, (hW.cell (p := ⟨nb, 6, none⟩) (by have := K.out.lt; simp only; omega)).trans z6, (hW.cell (p := ⟨nb, 7, none⟩) (by have := K.out.lt; simp only; omega)).trans z7, (hW.cell (p := ⟨nb, 8, none⟩) (by have := K.out.lt; simp only; omega)).trans z8, (hW.cell (p := ⟨nb, 9, none⟩) (by have := K.out.lt; simp only; omega)).trans z9, (hW.cell (p := ⟨nb + 1, 0, none⟩) (by have := K.out.lt; simp only; omega)).trans y0, (hW.cell (p := ⟨nb + 1, 1, none⟩) (by have := K.out.lt; simp only; omega)).trans y1, (hW.cell (p := ⟨nb + 1, 2, none⟩) (by have := K.out.lt; simp only; omega)).trans y2, (hW.cell (p := ⟨nb + 1, 3, none⟩) (by have := K.out.lt; simp only; omega)).trans y3, (hW.cell (p := ⟨nb + 1, 4, none⟩) (by have := K.out.lt; simp only; omega)).trans y4, (hW.cell (p := ⟨nb + 1, 5, none⟩) (by have := K.out.lt; simp only; omega)).trans y5, (hW.cell (p := ⟨nb + 1, 6, none⟩) (by have := K.out.lt; simp only; omega)).trans y6, (hW.cell (p := ⟨nb + 1, 7, none⟩) (by have := K.out.lt; simp only; omega)).trans y7, (hW.cell (p := ⟨nb + 1, 8, none⟩) (by have := K.out.lt; simp only; omega)).trans y8, (hW.cell (p := ⟨nb + 1, 9, none⟩) (by have := K.out.lt; simp only; omega)).trans y9, (hW.cell (p := ⟨ga, oa + j * 5, none⟩) (by have := K.out.lt; have := HNB.out; simp only; omega)).trans q0, (hW.cell (p := ⟨ga, oa + j * 5 + 1, none⟩) (by have := K.out.lt; have := HNB.out; simp only; omega)).trans q1, (hW.cell (p := ⟨ga, oa + j * 5 + 2, none⟩) (by have := K.out.lt; have := HNB.out; simp only; omega)).trans q2, (hW.cell (p := ⟨ga, oa + j * 5 + 3, none⟩) (by have := K.out.lt; have := HNB.out; simp only; omega)).trans q3, (hW.cell (p := ⟨ga, oa + j * 5 + 4, none⟩) (by have := K.out.lt; have := HNB.out; simp only; omega)).trans q4⟩
          have HSS := Lib.hid hss
          have kt0 : Below wr.heap.size wr wr.drew := (Below.refl _ _).drew
          have hgi : (j : Int) < (m : Int) := by omega
          have HOK := Lib.hid hok
          clear hss hkq hok
          go_upto_region 23 with fail
          refine wp_region_held_drew (S := fun w' => w'.cell? ⟨nb, 0, none⟩ = some (.int .i64 kind1) ∧ w'.cell? ⟨nb, 1, none⟩ = some (.int .i64 ins1) ∧ w'.cell? ⟨nb, 2, none⟩ = some (.int .i64 outs1) ∧ w'.cell? ⟨nb, 3, none⟩ = some (.slice A1 i c1) ∧ w'.cell? ⟨nb, 4, none⟩ = some (.int .u64 pa1) ∧ w'.cell? ⟨nb, 5, none⟩ = some (.int .u64 pb1) ∧ w'.cell? ⟨nb, 6, none⟩ = some (.int .u64 pc1) ∧ w'.cell? ⟨nb, 7, none⟩ = some (.int .u64 bd1) ∧ w'.cell? ⟨nb, 8, none⟩ = some (cv1) ∧ w'.cell? ⟨nb, 9, none⟩ = some (.bool st1) ∧ w'.cell? ⟨nb + 1, 0, none⟩ = some (.int .i64 kind2) ∧ w'.cell? ⟨nb + 1, 1, none⟩ = some (.int .i64 ins2) ∧ w'.cell? ⟨nb + 1, 2, none⟩ = some (.int .i64 outs2) ∧ w'.cell? ⟨nb + 1, 3, none⟩ = some (.slice A2 n2 c2) ∧ w'.cell? ⟨nb + 1, 4, none⟩ = some (.int .u64 pa2) ∧ w'.cell? ⟨nb + 1, 5, none⟩ = some (.int .u64 pb2) ∧ w'.cell? ⟨nb + 1, 6, none⟩ = some (.int .u64 pc2) ∧ w'.cell? ⟨nb + 1, 7, none⟩ = some (.int .u64 bd2) ∧ w'.cell? ⟨nb + 1, 8, none⟩ = some (cv2) ∧ w'.cell? ⟨nb + 1, 9, none⟩ = some (.bool st2) ∧ w'.cell? ⟨ga, oa + j * 5, none⟩ = some (.int .u64 ta) ∧ w'.cell? ⟨ga, oa + j * 5 + 1, none⟩ = some (.int .u64 tb) ∧ w'.cell? ⟨ga, oa + j * 5 + 2, none⟩ = some (.int .u64 tc) ∧ w'.cell? ⟨ga, oa + j * 5 + 3, none⟩ = some (.int .u64 qa) ∧ w'.cell? ⟨ga, oa + j * 5 + 4, none⟩ = some (.int .u64 qb)) (by kernel_rfl) (HSS.out _ kt0) (fun hHeld => ?_)
          clear z0 z1 z2 z3 z4 z5 z6 z7 z8 z9 y0 y1 y2 y3 y4 y5 y6 y7 y8 y9 q0 q1 q2 q3 q4
          rcases F1.out with ⟨hbq, g1⟩ | ⟨hbq, rfl⟩
          · cases hbq
          · skip
            rcases F2.out with ⟨rfl, g2⟩ | ⟨rfl, rfl⟩
            · skip
              obtain ⟨T2, x2, rfl⟩ := g2.form
              have ha2 : ∀ W, Below wr.heap.size wr W → Calls Try.prog 23 #[.iface T2 x2, .agg #[.int .i64 kind2, .int .i64 ins2, .int .i64 outs2, .slice A2 n2 c2, .int .u64 pa2, .int .u64 pb2, .int .u64 pc2, .int .u64 bd2, cv2, .bool st2], .agg #[.int .u64 ta, .int .u64 tb, .int .u64 tc, .int .u64 qa, .int .u64 qb]] W fun e w' => e = .returned (.bool true) ∧ Below W.heap.size W w' := fun W hW => by
                have hb : Below w.heap.size w W := by rw [← HNB.out]; exact K.out.be.trans (hW.mono (by have := K.out.lt; omega))
                have := ask_c (w := W) (HR2.out.below hb) HC2.out ins2 outs2 pa2 pb2 pc2 bd2 (g2.below hW).to cv2 st2 hv2 ta tb tc qa qb hp2 HOK.out
                rw [← HN2.out] at this
                exact this
              have HA2 := Lib.hid ha2
              clear ha2
              refine take_q (v := ?_) 0 134 rfl rfl ?_ (by assumption) ?_
              rotate_left
              · intro w h; (try dsimp only at h); go_simp; first | done | with_reducible rfl
              try simp only [Act.put, sA, s0, s1]
              refine take_q (v := ?_) 1 135 rfl rfl ?_ (by assumption) ?_
              rotate_left
              · intro w h; (try dsimp only at h); go_simp; first | done | with_reducible rfl
              try simp only [Act.put, sA, s0, s1]
              refine take_q (v := ?_) 2 136 rfl rfl ?_ (by assumption) ?_
              rotate_left
              · intro w h; (try dsimp only at h); go_simp; first | done | with_reducible rfl
              try simp only [Act.put, sA, s0, s1]
              refine off_q 3 137 rfl rfl (by assumption) ?_
              try simp only [Act.put, sA, s0, s1]
              refine off_q 4 138 rfl rfl (by assumption) ?_
              try simp only [Act.put, sA, s0, s1]
              refine off_q 5 139 rfl rfl (by assumption) ?_
              try simp only [Act.put, sA, s0, s1]
              refine off_q 6 140 rfl rfl (by assumption) ?_
              try simp only [Act.put, sA, s0, s1]
              refine off_q 7 141 rfl rfl (by assumption) ?_
              try simp only [Act.put, sA, s0, s1]
              refine off_q 8 142 rfl rfl (by assumption) ?_
              try simp only [Act.put, sA, s0, s1]
              refine off_q 9 143 rfl rfl (by assumption) ?_
              try simp only [Act.put, sA, s0, s1]
              refine off_q 10 144 rfl rfl (by assumption) ?_
              try simp only [Act.put, sA, s0, s1]
              refine take_q (v := ?_) 11 145 rfl rfl ?_ (by assumption) ?_
              rotate_left
              · intro w h; (try dsimp only at h); go_simp; first | done | with_reducible rfl
              try simp only [Act.put, sA, s0, s1]
              refine take_q (v := ?_) 12 146 rfl rfl ?_ (by assumption) ?_
              rotate_left
              · intro w h; (try dsimp only at h); go_simp; first | done | with_reducible rfl
              try simp only [Act.put, sA, s0, s1]
              refine take_q (v := ?_) 13 147 rfl rfl ?_ (by assumption) ?_
              rotate_left
              · intro w h; (try dsimp only at h); go_simp; first | done | with_reducible rfl
              try simp only [Act.put, sA, s0, s1]
              refine take_q (v := ?_) 14 148 rfl rfl ?_ (by assumption) ?_
              rotate_left
              · intro w h; (try dsimp only at h); go_simp; first | done | with_reducible rfl
              try simp only [Act.put, sA, s0, s1]
              refine take_q (v := ?_) 15 149 rfl rfl ?_ (by assumption) ?_
              rotate_left
              · intro w h; (try dsimp only at h); go_simp; first | done | with_reducible rfl
              try simp only [Act.put, sA, s0, s1]
              refine take_q (v := ?_) 16 150 rfl rfl ?_ (by assumption) ?_
              rotate_left
              · intro w h; (try dsimp only at h); go_simp; first | done | with_reducible rfl
              try simp only [Act.put, sA, s0, s1]
              refine take_q (v := ?_) 17 151 rfl rfl ?_ (by assumption) ?_
              rotate_left
              · intro w h; (try dsimp only at h); go_simp; first | done | with_reducible rfl
              try simp only [Act.put, sA, s0, s1]
              refine take_q (v := ?_) 18 152 rfl rfl ?_ (by assumption) ?_
              rotate_left
              · intro w h; (try dsimp only at h); go_simp; first | done | with_reducible rfl
              try simp only [Act.put, sA, s0, s1]
              refine take_q (v := ?_) 19 153 rfl rfl ?_ (by assumption) ?_
              rotate_left
              · intro w h; (try dsimp only at h); go_simp; first | done | with_reducible rfl
              try simp only [Act.put, sA, s0, s1]
              refine take_q (v := ?_) 20 154 rfl rfl ?_ (by assumption) ?_
              rotate_left
              · intro w h; (try dsimp only at h); go_simp; first | done | with_reducible rfl
              try simp only [Act.put, sA, s0, s1]
              refine take_q (v := ?_) 21 155 rfl rfl ?_ (by assumption) ?_
              rotate_left
              · intro w h; (try dsimp only at h); go_simp; first | done | with_reducible rfl
              try simp only [Act.put, sA, s0, s1]
              refine wpAnyH_ready (rs := [22]) (by kernel_rfl) (by simp) ?_
              refine AllReadyH.cons rfl (fun K hK => ?_) AllReadyH.nil
              go_simp
              (go_at_call 23; refine (HA2.out _ kt0).mono ?_; rintro e wa2 ⟨rfl, ba2⟩; have kt2 : Below wr.heap.size wr wa2 := kt0.trans (ba2.mono kt0.size))
              go_wp2_with fail
              refine hK.out _ _ (HSS.out _ kt2) (fun hHeld => ?_)
              clear hK K
              try simp only [Act.put, sA, s0, s1]
              refine take_q (v := ?_) 23 157 rfl rfl ?_ (by assumption) ?_
              rotate_left
              · intro w h; (try dsimp only at h); go_simp; first | done | with_reducible rfl
              try simp only [Act.put, sA, s0, s1]
              refine take_q (v := ?_) 24 158 rfl rfl ?_ (by assumption) ?_
              rotate_left
              · intro w h; (try dsimp only at h); go_simp; first | done | with_reducible rfl
              try simp only [Act.put, sA, s0, s1]
              refine take_q (v := ?_) 25 159 rfl rfl ?_ (by assumption) ?_
              rotate_left
              · intro w h; (try dsimp only at h); go_simp; first | done | with_reducible rfl
              try simp only [Act.put, sA, s0, s1]
              refine take_q (v := ?_) 26 160 rfl rfl ?_ (by assumption) ?_
              rotate_left
              · intro w h; (try dsimp only at h); go_simp; first | done | with_reducible rfl
              try simp only [Act.put, sA, s0, s1]
              refine take_q (v := ?_) 27 161 rfl rfl ?_ (by assumption) ?_
              rotate_left
              · intro w h; (try dsimp only at h); go_simp; first | done | with_reducible rfl
              try simp only [Act.put, sA, s0, s1]
              refine take_q (v := ?_) 28 162 rfl rfl ?_ (by assumption) ?_
              rotate_left
              · intro w h; (try dsimp only at h); go_simp; first | done | with_reducible rfl
              try simp only [Act.put, sA, s0, s1]
              refine take_q (v := ?_) 29 163 rfl rfl ?_ (by assumption) ?_
              rotate_left
              · intro w h; (try dsimp only at h); go_simp; first | done | with_reducible rfl
              try simp only [Act.put, sA, s0, s1]
              refine off_q 30 164 rfl rfl (by assumption) ?_
              try simp only [Act.put, sA, s0, s1]
              refine off_q 31 165 rfl rfl (by assumption) ?_
              try simp only [Act.put, sA, s0, s1]
              refine off_q 32 166 rfl rfl (by assumption) ?_
              try simp only [Act.put, sA, s0, s1]
              refine off_q 33 167 rfl rfl (by assumption) ?_
              try simp only [Act.put, sA, s0, s1]
              refine off_q 34 168 rfl rfl (by assumption) ?_
              try simp only [Act.put, sA, s0, s1]
              refine off_q 35 169 rfl rfl (by assumption) ?_
              try simp only [Act.put, sA, s0, s1]
              refine off_q 36 170 rfl rfl (by assumption) ?_
              try simp only [Act.put, sA, s0, s1]
              refine off_q 37 171 rfl rfl (by assumption) ?_
              try simp only [Act.put, sA, s0, s1]
              refine take_q (v := ?_) 38 172 rfl rfl ?_ (by assumption) ?_
              rotate_left
              · intro w h; (try dsimp only at h); go_simp; first | done | with_reducible rfl
              try simp only [Act.put, sA, s0, s1]
              refine take_q (v := ?_) 39 173 rfl rfl ?_ (by assumption) ?_
              rotate_left
              · intro w h; (try dsimp only at h); go_simp; first | done | with_reducible rfl
              try simp only [Act.put, sA, s0, s1]
              refine wpAnyH_done (by kernel_rfl) ?_ _
              go_wp2_with fail
              go_roundw
              case rel => exact ⟨j + 1, by go_num, by omega, Lib.hid (K.out.then kt2), Lib.hid (F1.out.below kt2), Lib.hid (F2.out.below kt2)⟩
              case measure => simp [intOf]; omega
            · skip
              refine take_q (v := ?_) 0 134 rfl rfl ?_ (by assumption) ?_
              rotate_left
              · intro w h; (try dsimp only at h); go_simp; first | done | with_reducible rfl
              try simp only [Act.put, sA, s0, s1]
              refine take_q (v := ?_) 1 135 rfl rfl ?_ (by assumption) ?_
              rotate_left
              · intro w h; (try dsimp only at h); go_simp; first | done | with_reducible rfl
              try simp only [Act.put, sA, s0, s1]
              refine take_q (v := ?_) 2 136 rfl rfl ?_ (by assumption) ?_
              rotate_left
              · intro w h; (try dsimp only at h); go_simp; first | done | with_reducible rfl
              try simp only [Act.put, sA, s0, s1]
              refine off_q 3 137 rfl rfl (by assumption) ?_
              try simp only [Act.put, sA, s0, s1]
              refine off_q 4 138 rfl rfl (by assumption) ?_
              try simp only [Act.put, sA, s0, s1]
              refine off_q 5 139 rfl rfl (by assumption) ?_
              try simp only [Act.put, sA, s0, s1]
              refine off_q 6 140 rfl rfl (by assumption) ?_
              try simp only [Act.put, sA, s0, s1]
              refine off_q 7 141 rfl rfl (by assumption) ?_
              try simp only [Act.put, sA, s0, s1]
              refine off_q 8 142 rfl rfl (by assumption) ?_
              try simp only [Act.put, sA, s0, s1]
              refine off_q 9 143 rfl rfl (by assumption) ?_
              try simp only [Act.put, sA, s0, s1]
              refine off_q 10 144 rfl rfl (by assumption) ?_
              try simp only [Act.put, sA, s0, s1]
              refine take_q (v := ?_) 11 145 rfl rfl ?_ (by assumption) ?_
              rotate_left
              · intro w h; (try dsimp only at h); go_simp; first | done | with_reducible rfl
              try simp only [Act.put, sA, s0, s1]
              refine take_q (v := ?_) 12 146 rfl rfl ?_ (by assumption) ?_
              rotate_left
              · intro w h; (try dsimp only at h); go_simp; first | done | with_reducible rfl
              try simp only [Act.put, sA, s0, s1]
              refine take_q (v := ?_) 13 147 rfl rfl ?_ (by assumption) ?_
              rotate_left
              · intro w h; (try dsimp only at h); go_simp; first | done | with_reducible rfl
              try simp only [Act.put, sA, s0, s1]
              refine take_q (v := ?_) 14 148 rfl rfl ?_ (by assumption) ?_
              rotate_left
              · intro w h; (try dsimp only at h); go_simp; first | done | with_reducible rfl
              try simp only [Act.put, sA, s0, s1]
              refine take_q (v := ?_) 15 149 rfl rfl ?_ (by assumption) ?_
              rotate_left
              · intro w h; (try dsimp only at h); go_simp; first | done | with_reducible rfl
              try simp only [Act.put, sA, s0, s1]
              refine off_q 16 150 rfl rfl (by assumption) ?_
              try simp only [Act.put, sA, s0, s1]
              refine off_q 17 151 rfl rfl (by assumption) ?_
              try simp only [Act.put, sA, s0, s1]
              refine off_q 18 152 rfl rfl (by assumption) ?_
              try simp only [Act.put, sA, s0, s1]
              refine off_q 19 153 rfl rfl (by assumption) ?_
              try simp only [Act.put, sA, s0, s1]
              refine off_q 20 154 rfl rfl (by assumption) ?_
              try simp only [Act.put, sA, s0, s1]
              refine off_q 21 155 rfl rfl (by assumption) ?_
              try simp only [Act.put, sA, s0, s1]
              refine off_q 22 156 rfl rfl (by assumption) ?_
              try simp only [Act.put, sA, s0, s1]
              refine off_q 23 157 rfl rfl (by assumption) ?_
              try simp only [Act.put, sA, s0, s1]
              refine take_q (v := ?_) 24 158 rfl rfl ?_ (by assumption) ?_
              rotate_left
              · intro w h; (try dsimp only at h); go_simp; first | done | with_reducible rfl
              try simp only [Act.put, sA, s0, s1]
              refine take_q (v := ?_) 25 159 rfl rfl ?_ (by assumption) ?_
              rotate_left
              · intro w h; (try dsimp only at h); go_simp; first | done | with_reducible rfl
              try simp only [Act.put, sA, s0, s1]
              refine take_q (v := ?_) 26 160 rfl rfl ?_ (by assumption) ?_
              rotate_left
              · intro w h; (try dsimp only at h); go_simp; first | done | with_reducible rfl
              try simp only [Act.put, sA, s0, s1]
              refine take_q (v := ?_) 27 161 rfl rfl ?_ (by assumption) ?_
              rotate_left
              · intro w h; (try dsimp only at h); go_simp; first | done | with_reducible rfl
              try simp only [Act.put, sA, s0, s1]
              refine take_q (v := ?_) 28 162 rfl rfl ?_ (by assumption) ?_
              rotate_left
              · intro w h; (try dsimp only at h); go_simp; first | done | with_reducible rfl
              try simp only [Act.put, sA, s0, s1]
              refine take_q (v := ?_) 29 163 rfl rfl ?_ (by assumption) ?_
              rotate_left
              · intro w h; (try dsimp only at h); go_simp; first | done | with_reducible rfl
              try simp only [Act.put, sA, s0, s1]
              refine off_q 30 164 rfl rfl (by assumption) ?_
              try simp only [Act.put, sA, s0, s1]
              refine off_q 31 165 rfl rfl (by assumption) ?_
              try simp only [Act.put, sA, s0, s1]
              refine off_q 32 166 rfl rfl (by assumption) ?_
              try simp only [Act.put, sA, s0, s1]
              refine off_q 33 167 rfl rfl (by assumption) ?_
              try simp only [Act.put, sA, s0, s1]
              refine off_q 34 168 rfl rfl (by assumption) ?_
              try simp only [Act.put, sA, s0, s1]
              refine off_q 35 169 rfl rfl (by assumption) ?_
              try simp only [Act.put, sA, s0, s1]
              refine off_q 36 170 rfl rfl (by assumption) ?_
              try simp only [Act.put, sA, s0, s1]
              refine off_q 37 171 rfl rfl (by assumption) ?_
              try simp only [Act.put, sA, s0, s1]
              refine take_q (v := ?_) 38 172 rfl rfl ?_ (by assumption) ?_
              rotate_left
              · intro w h; (try dsimp only at h); go_simp; first | done | with_reducible rfl
              try simp only [Act.put, sA, s0, s1]
              refine take_q (v := ?_) 39 173 rfl rfl ?_ (by assumption) ?_
              rotate_left
              · intro w h; (try dsimp only at h); go_simp; first | done | with_reducible rfl
              try simp only [Act.put, sA, s0, s1]
              refine wpAnyH_done (by kernel_rfl) ?_ _
              go_wp2_with fail
              go_roundw
              case rel => exact ⟨j + 1, by go_num, by omega, Lib.hid (K.out.then kt0), Lib.hid (F1.out.below kt0), Lib.hid (F2.out.below kt0)⟩
              case measure => simp [intOf]; omega
        · have hjm : j = m := by omega
          subst hjm
          go_wp2_with fail
          go_ret
          exact ⟨rfl, by rw [← HNB.out]; exact K.out.be⟩
end Go.Proofs.Ytfbejjobejdenaa.PCodeSays
