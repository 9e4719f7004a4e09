/- The codes: rows of instructions made by the law: joined, op; what reads as a list. -/
import Derived.Test.YtfbejjobejdenaaBase
import Derived.Test.YtfbejjobejdenaaWords
import Derived.Test.YtfbejjobejdenaaCPlain
set_option linter.unusedVariables false
set_option linter.unusedSimpArgs false
namespace Go.Proofs.Ytfbejjobejdenaa.PCodeSays
open Go.RowKit Go.Proofs.YtfbejjobejdenaaW.PrintWords Go.Proofs.YtfbejjobejdenaaW.PrintLast Go.Proofs.YtfbejjobejdenaaW.PrintMore
def cS (x : S29) : List Value := [.int .i64 x.f0, .int .u64 x.f1]
def flatS (l : List S29) : List Value := l.flatMap cS
theorem flatS_append (l m : List S29) : flatS (l ++ m) = flatS l ++ flatS m := by simp [flatS]
theorem flatS_length (l : List S29) : (flatS l).length = l.length * 2 := by
  induction l with
  | nil => rfl
  | cons a l ih => simp only [flatS, List.flatMap_cons, List.length_append, cS, List.length_cons, List.length_nil] at ih ⊢; omega
theorem flatS_get (l : List S29) (i j : Nat) (hi : i < l.length) (hj : j < 2) : (flatS l)[i * 2 + j]? = (cS l[i])[j]? := by
  induction l generalizing i with
  | nil => simp at hi
  | cons a l ih =>
    have e : flatS (a :: l) = cS a ++ flatS l := rfl
    cases i with
    | zero => rw [e, Nat.zero_mul, Nat.zero_add, List.getElem?_append_left (by simp [cS]; omega)]; rfl
    | succ i =>
      rw [e, List.getElem?_append_right (by simp [cS]; omega)]
      have : (i + 1) * 2 + j - (cS a).length = i * 2 + j := by simp [cS]; omega
      rw [this, ih i (by simpa using hi)]
      rfl
theorem flatS_one (l : List S29) : ∀ u ∈ flatS l, u.oneCell' = true := by
  intro u hu
  simp [flatS, cS] at hu
  obtain ⟨x, _, h⟩ := hu
  rcases h with rfl | rfl <;> rfl
/-- A row in memory, as the printed contracts ask it and as an append wants it. -/
def Row (w : World) (A : Option Addr) (l : List S29) : Prop := l.length ≤ 9223372036854775807 ∧ Reads w w.heap.size 2 A l.length (flatS l)
theorem Row.C {w : World} {A : Option Addr} {l : List S29} (h : Row w A l) : Kd.C k29 w A l.length l := by
  refine ⟨rfl, h.1, fun hn => ?_⟩
  obtain ⟨ad, e, _, hc⟩ := h.2.2 hn
  refine ⟨ad, e, fun j p hp => ?_⟩
  obtain ⟨hj, rfl⟩ := List.getElem?_eq_some_iff.1 hp
  refine ⟨cS l[j], rfl, k29_mk w l[j], fun i u hu => ?_⟩
  have hi : i < 2 := by have := (List.getElem?_eq_some_iff.1 hu).1; simpa [cS] using this
  exact hc (j * 2 + i) u (by rw [flatS_get l j i hj hi]; exact hu)
theorem Row.below {w w' : World} {A : Option Addr} {l : List S29} (h : Row w A l) (hb : Below w.heap.size w w') : Row w' A l := ⟨h.1, (h.2.below hb).more hb.size⟩
theorem Row.of_own {w : World} {base c : Nat} {A : Option Addr} {l : List S29} (h : w.ownsRow base 29 2 (.slice A l.length c) l.length (flatS l)) : Row w A l ∧ l.length ≤ c := by
  have hr := Reads.of_own h
  rcases h.2 with ⟨hv, h0⟩ | ⟨g, cap, cur, hv, hg, hh, hc, hm, _⟩
  · injection hv with _ h1 h2
    rw [h0]
    refine ⟨⟨by omega, hr⟩, by omega⟩
  · injection hv with _ h1 h2
    subst h2
    unfold maxLen at hm
    exact ⟨⟨by omega, hr⟩, hc⟩
theorem Row.nil (w : World) (A : Option Addr) : Row w A [] := ⟨by simp, by simp [Reads, flatS]⟩
/-- The closure 'op' of CodeParts. -/
theorem op_c {w : World} {nb : Nat} {n : Int} (hb : w.cell? ⟨nb, 0, none⟩ = some (.int .u64 n)) (kind : Int) :
    Calls Try.prog 18 #[.int .i64 kind, .pointer (some ⟨nb, 0, none⟩)] w fun e w' => ∃ A, e = .returned (.slice A 1 1) ∧ Row w' A [⟨kind, n⟩] ∧ Below w.heap.size w w' := by
  go_enter Try.func18, Try.ntmps18
  go_wp2
  go_ret
  refine ⟨_, rfl, ?_, (Below.refl _ _).alloc (Nat.le_refl _) _⟩
  have h := World.ownsRow_lit (base := 0) (e := 29) (size := 2) w #[.int .i64 kind, .int .u64 n] 1 (by omega) (by decide) (by rfl)
  exact (Row.of_own (l := [⟨kind, n⟩]) (by simpa [flatS, cS] using h)).1
set_option maxHeartbeats 800000 in
theorem joined_c {w : World} {A A' : Option Addr} {l m : List S29} {c c' : Nat} (hl : Row w A l) (hm : Row w A' m) (hb : (l.length + m.length) * 16 ≤ 140737488355328) :
    Calls Try.prog 16 #[.slice A l.length c, .slice A' m.length c'] w fun e w' => ∃ A2 c2, e = .returned (.slice A2 (l ++ m).length c2) ∧ w'.ownsRow w.heap.size 29 2 (.slice A2 (l ++ m).length c2) (l ++ m).length (flatS (l ++ m)) ∧ Below w.heap.size w w' := by
  obtain ⟨i0, hi0, hz0, hzs, hz2⟩ := info_parts info29
  have h1 := Lib.hid hl.2
  have h2 := Lib.hid hm.2
  have f1 := flatS_one l
  have f2 := flatS_one m
  obtain ⟨n1, hn1⟩ : ∃ n, n = l.length := ⟨_, rfl⟩
  obtain ⟨n2, hn2⟩ : ∃ n, n = m.length := ⟨_, rfl⟩
  rw [List.length_append, ← hn1, ← hn2] 
  rw [← hn1] at h1 hb
  rw [← hn2] at h2 hb
  have m1 := Lib.hid hl.1
  have m2 := Lib.hid hm.1
  clear hl hm
  have HN1 := Lib.hid hn1
  have HN2 := Lib.hid hn2
  clear hn1 hn2
  go_enter Try.func16, Try.ntmps16
  go_wp2_with (first
    | (at_builtin; refine wpList_append_any _ rfl (.tmp 5) (.tmp 6) _ rfl w.heap.size 29 i0 _ 2 16 Try.underlying22 hi0 hz0 hzs hz2 rfl (by omega) (.slice (some ⟨w.heap.size, 0, none⟩) 0 0) 0 [] rfl (World.ownsRow_made w #[] 0 (Nat.le_refl _) (by decide) (by rfl)) w.heap.size A n1 c (flatS l) rfl (h1.out.alloc (Nat.le_refl _) _) f1 (by unfold maxLen; omega) (by omega) (by simp) ?_; intro v1 w1 hown1 hgrow1 hat1; obtain ⟨a1, c1, rfl⟩ := own_shape hown1
       have k1 : Below w.heap.size w w1 := ((Below.refl _ _).alloc (Nat.le_refl _) _).grown hgrow1 (by simp) (fun k hk => by simp [Value.ownBlock] at hk; omega)
       simp only [Nat.zero_add, List.nil_append] at hown1)
    | (at_builtin; refine wpList_append_any _ rfl (.tmp 7) (.tmp 8) _ rfl w.heap.size 29 i0 _ 2 16 Try.underlying22 hi0 hz0 hzs hz2 rfl (by omega) (.slice a1 n1 c1) n1 (flatS l) rfl hown1 w.heap.size A' n2 c' (flatS m) rfl (h2.out.below k1) f2 (by unfold maxLen; omega) (by omega) k1.size ?_; intro v2 w2 hown2 hgrow2 hat2; obtain ⟨a2, c2, rfl⟩ := own_shape hown2))
  go_ret
  exact ⟨a2, c2, rfl, by rw [flatS_append]; exact hown2, k1.grown hgrow2 k1.size (fun k hk => (hown1.lt k hk).1)⟩
end Go.Proofs.Ytfbejjobejdenaa.PCodeSays
