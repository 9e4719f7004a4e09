/- The flows: Clone, New, Kind: the contracts. -/
import Derived.Test.YtfbejjobejdenaaFDo
set_option linter.unusedVariables false
set_option linter.unusedSimpArgs false
namespace Go.Proofs.Ytfbejjobejdenaa.PCodeSays
open Go.RowKit Go.Proofs.YtfbejjobejdenaaW.PrintWords Go.Proofs.YtfbejjobejdenaaW.PrintLast Go.Proofs.YtfbejjobejdenaaW.PrintMore
section
variable {w : World} {A : Option Addr} {c : Nat} {l : List S29}
set_option maxHeartbeats 1000000 in
theorem clone_c (hr : Row w A l) (hc : l.length ≤ c) (hb : l.length * 16 ≤ 140737488355328) :
    Calls Try.prog 30 #[.slice A l.length c] w fun e w' => ∃ A' c', e = .returned (.slice A' l.length c') ∧ Row w' A' l ∧ l.length ≤ c' ∧ Below w.heap.size w w' := by
  obtain ⟨i0, hi0, hz0, hzs, hz2⟩ := info_parts info29
  rcases A with _ | ad
  · have h0 : l = [] := by
      rcases Nat.eq_zero_or_pos l.length with h | h
      · exact List.eq_nil_of_length_eq_zero h
      · obtain ⟨ad, e, _⟩ := hr.2.2 h; cases e
    subst h0
    clear hr hc hb
    have hq := fun (W : World) (a : Option Addr) (n c : Nat) => Lib.run_eql_slice_nil (P := Try.prog) W 22 29 a n c 0 0 Try.underlying22
    simp only [List.length_nil]
    go_enter Try.func30, Try.ntmps30
    go_wp2_with fail
    go_ret
    exact ⟨none, 0, rfl, Row.nil _ _, by simp, Below.refl _ _⟩
  · have h1 := Lib.hid hr.2
    have f1 := flatS_one l
    obtain ⟨n, hn2⟩ : ∃ n, n = l.length := ⟨_, rfl⟩
    rw [← hn2] at h1 hb ⊢
    have HN := Lib.hid hn2
    clear hr hc hn2
    have hq := fun (W : World) (a : Option Addr) (n c : Nat) => Lib.run_eql_slice_nil (P := Try.prog) W 22 29 a n c 0 0 Try.underlying22
    go_enter Try.func30, Try.ntmps30
    go_wp2_with (at_builtin; refine wpList_append_any _ rfl (.tmp 5) (.tmp 6) _ rfl w.heap.size 29 i0 _ 2 16 Try.underlying22 hi0 hz0 hzs hz2 rfl (by omega) (.slice (some ⟨w.heap.size, 0, none⟩) 0 0) 0 [] rfl (World.ownsRow_made w #[] 0 (Nat.le_refl _) (by decide) (by rfl)) w.heap.size (some ad) n c (flatS l) rfl (h1.out.alloc (Nat.le_refl _) _) f1 (by unfold maxLen; omega) (by omega) (by simp) ?_; intro v1 w1 hown1 hgrow1 hat1; obtain ⟨a1, c1, rfl⟩ := own_shape hown1)
    go_ret
    have k1 : Below w.heap.size w w1 := ((Below.refl _ _).alloc (Nat.le_refl _) _).grown hgrow1 (by simp) (fun k hk => by simp [Value.ownBlock] at hk; omega)
    have he := HN.out
    simp only [Nat.zero_add, List.nil_append] at hown1 ⊢
    rw [he] at hown1 ⊢
    have := Row.of_own hown1
    exact ⟨a1, c1, rfl, this.1, this.2, k1⟩
/-- The cells of a node. -/
abbrev nodeV (kind ins outs : Int) (A : Option Addr) (n c : Nat) (p : T3) (bd : Int) (cv : Value) (st : Bool) : Value :=
  .agg #[.int .i64 kind, .int .i64 ins, .int .i64 outs, .slice A n c, .int .u64 p.a, .int .u64 p.b, .int .u64 p.c, .int .u64 bd, cv, .bool st]
def newE (kind : Int) (l : List S29) : Int := if kind = 2 ∨ kind = 3 then chk kind l else if kind = 4 ∨ kind = 5 then 0 else 20
/-- An operator as a value. -/
def IsFlow (w : World) (v : Value) (kind : Int) (l : List S29) (p : T3) (bd : Int) : Prop :=
  (kind = 2 ∧ chk 2 l = 0 ∧ ∃ A c, v = .iface 70 (.agg #[.slice A l.length c]) ∧ Row w A l ∧ l.length ≤ c) ∨
  (kind = 3 ∧ chk 3 l = 0 ∧ ∃ A c, v = .iface 71 (.agg #[.slice A l.length c]) ∧ Row w A l ∧ l.length ≤ c) ∨
  (kind = 4 ∧ v = .iface 72 (.agg #[])) ∨ (kind = 5 ∧ v = .iface 74 (.agg #[.int .u64 p.a, .int .u64 p.b, .int .u64 p.c, .int .u64 bd]))
theorem IsFlow.below {w w' : World} {v : Value} {kind : Int} {l : List S29} {p : T3} {bd : Int} (h : IsFlow w v kind l p bd) (hb : Below w.heap.size w w') : IsFlow w' v kind l p bd := by
  rcases h with ⟨h1, h2, A, c, h3, h4, h5⟩ | ⟨h1, h2, A, c, h3, h4, h5⟩ | h | h
  · exact .inl ⟨h1, h2, A, c, h3, h4.below hb, h5⟩
  · exact .inr (.inl ⟨h1, h2, A, c, h3, h4.below hb, h5⟩)
  · exact .inr (.inr (.inl h))
  · exact .inr (.inr (.inr h))
set_option maxRecDepth 100000 in
set_option maxHeartbeats 2000000 in
theorem new_c (kind ins outs : Int) (p : T3) (bd : Int) (cv : Value) (st : Bool) (hr : Row w A l) (hc : l.length ≤ c) (h1 : cv.oneCell' = true) :
    Calls Try.prog 21 #[nodeV kind ins outs A l.length c p bd cv st] w fun e w' => ∃ v, e = .returned (.tuple #[v, .int .i64 (newE kind l)]) ∧ Below w.heap.size w w' ∧ ((newE kind l = 0 ∧ IsFlow w' v kind l p bd) ∨ (newE kind l ≠ 0 ∧ v = .nilIface)) := by
  have hchk : ∀ (k : Int) (W : World), Below w.heap.size w W → Calls Try.prog 8 #[.int .i64 k, .slice A l.length c] W fun e w' => e = .returned (.int .i64 (chk k l)) ∧ Below W.heap.size W w' := fun k W hb => check_c k (hr.below hb).C hc
  have hclone : ∀ (W : World), Below w.heap.size w W → l.length * 16 ≤ 140737488355328 → Calls Try.prog 30 #[.slice A l.length c] W fun e w' => ∃ A' c', e = .returned (.slice A' l.length c') ∧ Row w' A' l ∧ l.length ≤ c' ∧ Below W.heap.size W w' := fun W hb hl => clone_c (hr.below hb) hc hl
  have HR := Lib.hid hr
  obtain ⟨n, hn⟩ : ∃ n, n = l.length := ⟨_, rfl⟩
  have HN := Lib.hid hn
  rw [← hn] at hchk hclone ⊢
  obtain ⟨pa, pb, pc⟩ := p
  have b0 : ∀ v, Below w.heap.size w (w.alloc v) := fun v => (Below.refl _ _).alloc (Nat.le_refl _) _
  clear hr hc hn
  by_cases k2 : kind = 2 ∨ kind = 3
  · by_cases hz : chk kind l = 0
    · have hle := (chk_zero.1 hz).2.1
      rw [← HN.out] at hle
      rcases k2 with rfl | rfl
      · have hE : newE 2 l = 0 := by simp [newE, hz]
        rw [hE]
        have h8 := fun W hb => hchk 2 W hb
        rw [hz] at h8
        clear hchk
        have HE := Lib.hid hE
        have HZ := Lib.hid hz
        clear hE hz
        go_enter Try.func21, Try.ntmps21
        go_wp2_with (first | (go_at_call 8; refine (h8 _ (b0 _)).mono ?_; rintro e w1 ⟨rfl, b1⟩; have nb0 : w1.heap[w.heap.size]? = some (.cells #[.int .i64 2, .int .i64 ins, .int .i64 outs, .slice A n c, .int .u64 pa, .int .u64 pb, .int .u64 pc, .int .u64 bd, cv, .bool st] 47 (0, 0)) := (b1.block _ (by simp)).trans (alloc_at rfl); have z0 := blk_cell nb0 0; have z3 := blk_cell nb0 3; simp at z0 z3; have bw := (b0 _).trans (b1.mono (by simp))) | (go_at_call 30; refine (hclone _ bw (by omega)).mono ?_; rintro e w2 ⟨A2, c2, rfl, r2, hc2, b2⟩))
        go_ret2
        exact ⟨_, rfl, bw.trans (b2.mono bw.size), .inl ⟨trivial, .inl ⟨rfl, HZ.out, A2, c2, congrArg (fun k => Value.iface 70 (.agg #[.slice A2 k c2])) HN.out, r2, by have := HN.out; omega⟩⟩⟩
      · have hE : newE 3 l = 0 := by simp [newE, hz]
        rw [hE]
        have h8 := fun W hb => hchk 3 W hb
        rw [hz] at h8
        clear hchk
        have HE := Lib.hid hE
        have HZ := Lib.hid hz
        clear hE hz
        go_enter Try.func21, Try.ntmps21
        go_wp2_with (first | (go_at_call 8; refine (h8 _ (b0 _)).mono ?_; rintro e w1 ⟨rfl, b1⟩; have nb0 : w1.heap[w.heap.size]? = some (.cells #[.int .i64 3, .int .i64 ins, .int .i64 outs, .slice A n c, .int .u64 pa, .int .u64 pb, .int .u64 pc, .int .u64 bd, cv, .bool st] 47 (0, 0)) := (b1.block _ (by simp)).trans (alloc_at rfl); have z0 := blk_cell nb0 0; have z3 := blk_cell nb0 3; simp at z0 z3; have bw := (b0 _).trans (b1.mono (by simp))) | (go_at_call 30; refine (hclone _ bw (by omega)).mono ?_; rintro e w2 ⟨A2, c2, rfl, r2, hc2, b2⟩))
        go_ret2
        exact ⟨_, rfl, bw.trans (b2.mono bw.size), .inl ⟨trivial, .inr (.inl ⟨rfl, HZ.out, A2, c2, congrArg (fun k => Value.iface 71 (.agg #[.slice A2 k c2])) HN.out, r2, by have := HN.out; omega⟩)⟩⟩
    · have hE : newE kind l = chk kind l := by simp [newE, k2]
      rw [hE]
      have h8 := fun W hb => hchk kind W hb
      clear hchk hclone hE
      obtain ⟨ce, hce⟩ : ∃ ce, ce = chk kind l := ⟨_, rfl⟩
      rw [← hce] at h8 hz ⊢
      clear hce
      have hz2 : (ce == 0) = false := by simpa using hz
      have hz3 : (ce != 0) = true := by simpa using hz
      rcases k2 with rfl | rfl
      · go_enter Try.func21, Try.ntmps21
        go_wp2_with (go_at_call 8; refine (h8 _ (b0 _)).mono ?_; rintro e w1 ⟨rfl, b1⟩; have nb0 : w1.heap[w.heap.size]? = some (.cells #[.int .i64 2, .int .i64 ins, .int .i64 outs, .slice A n c, .int .u64 pa, .int .u64 pb, .int .u64 pc, .int .u64 bd, cv, .bool st] 47 (0, 0)) := (b1.block _ (by simp)).trans (alloc_at rfl); have z0 := blk_cell nb0 0; have z3 := blk_cell nb0 3; simp at z0 z3; have bw := (b0 _).trans (b1.mono (by simp)))
        go_ret2
        exact ⟨_, rfl, bw, .inr ⟨hz, rfl⟩⟩
      · go_enter Try.func21, Try.ntmps21
        go_wp2_with (go_at_call 8; refine (h8 _ (b0 _)).mono ?_; rintro e w1 ⟨rfl, b1⟩; have nb0 : w1.heap[w.heap.size]? = some (.cells #[.int .i64 3, .int .i64 ins, .int .i64 outs, .slice A n c, .int .u64 pa, .int .u64 pb, .int .u64 pc, .int .u64 bd, cv, .bool st] 47 (0, 0)) := (b1.block _ (by simp)).trans (alloc_at rfl); have z0 := blk_cell nb0 0; have z3 := blk_cell nb0 3; simp at z0 z3; have bw := (b0 _).trans (b1.mono (by simp)))
        go_ret2
        exact ⟨_, rfl, bw, .inr ⟨hz, rfl⟩⟩
  · have n2 : (kind == 2) = false := by simp; omega
    have n3 : (kind == 3) = false := by simp; omega
    by_cases k4 : kind = 4
    · subst k4
      have hE : newE 4 l = 0 := by simp [newE]
      rw [hE]
      clear hE hchk hclone
      go_enter Try.func21, Try.ntmps21
      go_wp2_with fail
      go_ret2
      exact ⟨_, rfl, b0 _, .inl ⟨trivial, .inr (.inr (.inl ⟨rfl, rfl⟩))⟩⟩
    · have n4 : (kind == 4) = false := by simp; omega
      by_cases k5 : kind = 5
      · subst k5
        have hE : newE 5 l = 0 := by simp [newE]
        rw [hE]
        clear hE hchk hclone
        go_enter Try.func21, Try.ntmps21
        go_wp2_with fail
        go_ret2
        exact ⟨_, rfl, b0 _, .inl ⟨trivial, .inr (.inr (.inr ⟨rfl, rfl⟩))⟩⟩
      · have n5 : (kind == 5) = false := by simp; omega
        have hE : newE kind l = 20 := by simp [newE, k2, k4, k5]
        rw [hE]
        clear hE hchk hclone k2 k4 k5
        go_enter Try.func21, Try.ntmps21
        go_wp2_with fail
        go_ret2
        exact ⟨_, rfl, b0 _, .inr ⟨by decide, rfl⟩⟩
section
variable {P : Program} {T : TypeId} {z v : Value} {fs : Array Field}
theorem ta_yes (hu : P.underlying T = some (.struct fs)) (v : Value) (W : World) : Sem.run P (Instr.typeAssert (.iface T v) 53 T true) W = .ok (.tuple #[v, .bool true]) W := by
  simp [Instr.typeAssert, run_underlying hu, go_sem, Result.andThen]
theorem ta_no (hu : P.underlying T = some (.struct fs)) (hz : (P.info? T).map (fun i => i.zero) = some (some z)) {t : TypeId} (h : t ≠ T) (v : Value) (W : World) : Sem.run P (Instr.typeAssert (.iface t v) 53 T true) W = .ok (.tuple #[z, .bool false]) W := by
  cases hi : P.info? T with
  | none => rw [hi] at hz; cases hz
  | some i =>
    rw [hi] at hz
    injection hz with hz
    simp [Instr.typeAssert, run_underlying hu, go_sem, Result.andThen, h, zeroValue, typeInfo, hi, hz]
theorem ta_nil (hu : P.underlying T = some (.struct fs)) (hz : (P.info? T).map (fun i => i.zero) = some (some z)) (W : World) : Sem.run P (Instr.typeAssert .nilIface 53 T true) W = .ok (.tuple #[z, .bool false]) W := by
  cases hi : P.info? T with
  | none => rw [hi] at hz; cases hz
  | some i =>
    rw [hi] at hz
    injection hz with hz
    simp [Instr.typeAssert, run_underlying hu, go_sem, Result.andThen, zeroValue, typeInfo, hi, hz]
end
def kindOf (v : Value) : Int := match v with
  | .iface 70 _ => 2
  | .iface 71 _ => 3
  | .iface 72 _ => 4
  | .iface 74 _ => 5
  | _ => 0
theorem kind_c (v : Value) (h : (∃ x, v = .iface 70 (.agg #[x])) ∨ (∃ x, v = .iface 71 (.agg #[x])) ∨ v = .iface 72 (.agg #[]) ∨ (∃ a b c d, v = .iface 74 (.agg #[a, b, c, d])) ∨ v = .iface 51 (.agg #[]) ∨ v = .nilIface) (w : World) :
    Calls Try.prog 20 #[v] w fun e w' => e = .returned (.int .i64 (kindOf v)) ∧ Below w.heap.size w w' := by
  have y70 := fun v W => ta_yes (P := Try.prog) Try.underlying70 v W
  have m70 := fun W => ta_nil (P := Try.prog) (z := .agg #[.slice none 0 0]) Try.underlying70 (by kernel_rfl) W
  have n70_71 := fun v W => ta_no (P := Try.prog) (z := .agg #[.slice none 0 0]) (t := 71) Try.underlying70 (by kernel_rfl) (by decide) v W
  have n70_72 := fun v W => ta_no (P := Try.prog) (z := .agg #[.slice none 0 0]) (t := 72) Try.underlying70 (by kernel_rfl) (by decide) v W
  have n70_74 := fun v W => ta_no (P := Try.prog) (z := .agg #[.slice none 0 0]) (t := 74) Try.underlying70 (by kernel_rfl) (by decide) v W
  have n70_51 := fun v W => ta_no (P := Try.prog) (z := .agg #[.slice none 0 0]) (t := 51) Try.underlying70 (by kernel_rfl) (by decide) v W
  have y71 := fun v W => ta_yes (P := Try.prog) Try.underlying71 v W
  have m71 := fun W => ta_nil (P := Try.prog) (z := .agg #[.slice none 0 0]) Try.underlying71 (by kernel_rfl) W
  have n71_70 := fun v W => ta_no (P := Try.prog) (z := .agg #[.slice none 0 0]) (t := 70) Try.underlying71 (by kernel_rfl) (by decide) v W
  have n71_72 := fun v W => ta_no (P := Try.prog) (z := .agg #[.slice none 0 0]) (t := 72) Try.underlying71 (by kernel_rfl) (by decide) v W
  have n71_74 := fun v W => ta_no (P := Try.prog) (z := .agg #[.slice none 0 0]) (t := 74) Try.underlying71 (by kernel_rfl) (by decide) v W
  have n71_51 := fun v W => ta_no (P := Try.prog) (z := .agg #[.slice none 0 0]) (t := 51) Try.underlying71 (by kernel_rfl) (by decide) v W
  have y72 := fun v W => ta_yes (P := Try.prog) Try.underlying72 v W
  have m72 := fun W => ta_nil (P := Try.prog) (z := .agg #[]) Try.underlying72 (by kernel_rfl) W
  have n72_70 := fun v W => ta_no (P := Try.prog) (z := .agg #[]) (t := 70) Try.underlying72 (by kernel_rfl) (by decide) v W
  have n72_71 := fun v W => ta_no (P := Try.prog) (z := .agg #[]) (t := 71) Try.underlying72 (by kernel_rfl) (by decide) v W
  have n72_74 := fun v W => ta_no (P := Try.prog) (z := .agg #[]) (t := 74) Try.underlying72 (by kernel_rfl) (by decide) v W
  have n72_51 := fun v W => ta_no (P := Try.prog) (z := .agg #[]) (t := 51) Try.underlying72 (by kernel_rfl) (by decide) v W
  have y74 := fun v W => ta_yes (P := Try.prog) Try.underlying74 v W
  have m74 := fun W => ta_nil (P := Try.prog) (z := .agg #[.int .u64 0, .int .u64 0, .int .u64 0, .int .u64 0]) Try.underlying74 (by kernel_rfl) W
  have n74_70 := fun v W => ta_no (P := Try.prog) (z := .agg #[.int .u64 0, .int .u64 0, .int .u64 0, .int .u64 0]) (t := 70) Try.underlying74 (by kernel_rfl) (by decide) v W
  have n74_71 := fun v W => ta_no (P := Try.prog) (z := .agg #[.int .u64 0, .int .u64 0, .int .u64 0, .int .u64 0]) (t := 71) Try.underlying74 (by kernel_rfl) (by decide) v W
  have n74_72 := fun v W => ta_no (P := Try.prog) (z := .agg #[.int .u64 0, .int .u64 0, .int .u64 0, .int .u64 0]) (t := 72) Try.underlying74 (by kernel_rfl) (by decide) v W
  have n74_51 := fun v W => ta_no (P := Try.prog) (z := .agg #[.int .u64 0, .int .u64 0, .int .u64 0, .int .u64 0]) (t := 51) Try.underlying74 (by kernel_rfl) (by decide) v W
  rcases h with ⟨x, rfl⟩ | ⟨x, rfl⟩ | rfl | ⟨a, b, c, d, rfl⟩ | rfl | rfl
  all_goals
    go_enter Try.func20, Try.ntmps20
    go_wp2_with (go_in)
    go_ret
    exact ⟨rfl, Below.refl _ _⟩
end
end Go.Proofs.Ytfbejjobejdenaa.PCodeSays
