/- The flows: the document's plus and New: the contracts. -/
import Derived.Test.YtfbejjobejdenaaFNew
import Derived.Test.YtfbejjobejdenaaFLoop
set_option linter.unusedVariables false
set_option linter.unusedSimpArgs false
namespace Go.Proofs.Ytfbejjobejdenaa.PCodeSays
open Go.RowKit Go.Proofs.YtfbejjobejdenaaW.PrintWords Go.Proofs.YtfbejjobejdenaaW.PrintLast Go.Proofs.YtfbejjobejdenaaW.PrintMore
/-- May it be added? -/
def plusOk (a x bd : Int) : Prop := x = 0 ∨ (a + x < 18446744073709551616 ∧ a + x ≤ bd)
section
variable (a x bd : Int) (ha : 0 ≤ a ∧ a < 18446744073709551616) (hx : 0 ≤ x ∧ x < 18446744073709551616)
include ha hx
set_option maxHeartbeats 1000000 in
theorem plus_yes (h : plusOk a x bd) (w : World) : Calls Try.prog 32 #[.int .u64 a, .int .u64 x, .int .u64 bd] w fun e w' => e = .returned (.tuple #[.int .u64 (x + a), .bool true]) ∧ Below w.heap.size w w' := by
  by_cases h0 : x = 0
  · subst h0
    clear h ha hx
    go_enter Try.func32, Try.ntmps32
    go_wp2_with fail
    go_ret2
    exact ⟨by simp, Below.refl _ _⟩
  · obtain ⟨h1, h2⟩ : a + x < 18446744073709551616 ∧ a + x ≤ bd := by unfold plusOk at h; omega
    have e0 : (x == 0) = false := by simpa using h0
    have e1 : IntKind.u64.wrap (18446744073709551615 - x) = 18446744073709551615 - x := by rw [IntKind.wrap_u64]; omega
    have e2 : IntKind.u64.wrap (a + x) = x + a := by rw [IntKind.wrap_u64]; omega
    have e3 : decide (18446744073709551615 - x < a) = false := by simp; omega
    have e4 : decide (bd < x + a) = false := by simp; omega
    clear h ha hx h1 h2 h0
    go_enter Try.func32, Try.ntmps32
    go_wp2_with fail
    go_ret2
    exact ⟨rfl, Below.refl _ _⟩
set_option maxHeartbeats 1000000 in
theorem plus_no (h : ¬ plusOk a x bd) (w : World) : Calls Try.prog 32 #[.int .u64 a, .int .u64 x, .int .u64 bd] w fun e w' => e = .returned (.tuple #[.int .u64 0, .bool false]) ∧ Below w.heap.size w w' := by
  have h0 : ¬ x = 0 := fun h0 => h (.inl h0)
  have e0 : (x == 0) = false := by simpa using h0
  have e1 : IntKind.u64.wrap (18446744073709551615 - x) = 18446744073709551615 - x := by rw [IntKind.wrap_u64]; omega
  by_cases h1 : 18446744073709551615 - x < a
  · clear h ha hx h0
    go_enter Try.func32, Try.ntmps32
    go_wp2_with fail
    go_ret2
    exact ⟨rfl, Below.refl _ _⟩
  · have e2 : IntKind.u64.wrap (a + x) = a + x := by rw [IntKind.wrap_u64]; omega
    have e4 : bd < a + x := by unfold plusOk at h; omega
    clear h ha hx h0
    go_enter Try.func32, Try.ntmps32
    go_wp2_with fail
    go_ret2
    exact ⟨rfl, Below.refl _ _⟩
end
theorem loop_plus (p t : T3) (bd : Int) (hp : p.ok) (ht : t.ok) : (T3.fits p t ∧ loopOk p t bd) ↔ (plusOk t.a p.a bd ∧ plusOk t.b p.b bd ∧ plusOk t.c p.c bd) := by
  obtain ⟨⟨a0, a1⟩, ⟨b0, b1⟩, c0, c1⟩ := hp
  obtain ⟨⟨d0, d1⟩, ⟨e0, e1⟩, f0, f1⟩ := ht
  unfold T3.fits loopOk plusOk
  omega
section
variable {w : World} {A : Option Addr} {c : Nat} {l : List S29}
set_option maxRecDepth 100000 in
set_option maxHeartbeats 1000000 in
theorem rnew_c (kind ins outs : Int) (p : T3) (bd : Int) (cv : Value) (st : Bool) (hr : Row w A l) (hc : l.length ≤ c) :
    Calls Try.prog 22 #[nodeV kind ins outs A l.length c p bd cv st] w fun e w' => e = .returned (.int .i64 (newE kind l)) ∧ Below w.heap.size w w' := by
  have hchk : ∀ (k : Int) (W : World), Below w.heap.size w W → Calls Try.prog 9 #[.int .i64 k, .slice A l.length c] W fun e w' => e = .returned (.int .i64 (chk k l)) ∧ Below W.heap.size W w' := fun k W hb => rcheck_c k (hr.below hb).C hc
  obtain ⟨pa, pb, pc⟩ := p
  have b0 : ∀ v, Below w.heap.size w (w.alloc v) := fun v => (Below.refl _ _).alloc (Nat.le_refl _) _
  by_cases k2 : kind = 2 ∨ kind = 3
  · have hE : newE kind l = chk kind l := by simp [newE, k2]
    rw [hE]
    have h9 := fun W hb => hchk kind W hb
    obtain ⟨ce, hce⟩ : ∃ ce, ce = chk kind l := ⟨_, rfl⟩
    rw [← hce] at h9 ⊢
    obtain ⟨n, hn⟩ : ∃ n, n = l.length := ⟨_, rfl⟩
    rw [← hn] at h9 ⊢
    clear hchk hE hce hr hc hn
    rcases k2 with rfl | rfl
    · go_enter Try.func22, Try.ntmps22
      go_wp2_with (go_at_call 9; refine (h9 _ (b0 _)).mono ?_; rintro e w1 ⟨rfl, b1⟩)
      go_ret
      exact ⟨rfl, (b0 _).trans (b1.mono (by simp))⟩
    · go_enter Try.func22, Try.ntmps22
      go_wp2_with (go_at_call 9; refine (h9 _ (b0 _)).mono ?_; rintro e w1 ⟨rfl, b1⟩)
      go_ret
      exact ⟨rfl, (b0 _).trans (b1.mono (by simp))⟩
  · have n2 : (kind == 2) = false := by simp; omega
    have n3 : (kind == 3) = false := by simp; omega
    have hq : newE kind l = if kind = 4 ∨ kind = 5 then 0 else 20 := by simp [newE, k2]
    obtain ⟨n, hn⟩ : ∃ n, n = l.length := ⟨_, rfl⟩
    rw [hq, ← hn]
    clear hchk hr hc hq hn
    by_cases k4 : kind = 4
    · subst k4
      go_enter Try.func22, Try.ntmps22
      go_wp2_with fail
      go_ret
      exact ⟨rfl, b0 _⟩
    · have n4 : (kind == 4) = false := by simp; omega
      by_cases k5 : kind = 5
      · subst k5
        go_enter Try.func22, Try.ntmps22
        go_wp2_with fail
        go_ret
        exact ⟨rfl, b0 _⟩
      · have n5 : (kind == 5) = false := by simp; omega
        rw [if_neg (by omega)]
        clear k2 k4 k5
        go_enter Try.func22, Try.ntmps22
        go_wp2_with fail
        go_ret
        exact ⟨rfl, b0 _⟩
end
end Go.Proofs.Ytfbejjobejdenaa.PCodeSays
