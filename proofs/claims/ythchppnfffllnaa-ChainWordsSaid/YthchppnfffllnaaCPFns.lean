/- The functions by number, as plain functions; made, kinds, same. -/
import Derived.Test.YthchppnfffllnaaCPIns
set_option linter.unusedVariables false
set_option linter.unusedSimpArgs false
namespace Go.Proofs.Ythchppnfffllnaa
open Go.RowKit PChainScript Go.Proofs.YthchppnfffllnaaW.PrintWords Go.Proofs.YthchppnfffllnaaW.PrintLast Go.Proofs.YthchppnfffllnaaW.PrintMore
namespace CP
def bel (kind : Int) (x y : S35) : Bool := (sluiceref03_Below.f kind x.f0 x.f1 y.f0 y.f1).getD false
def fst (kind : Int) (x y : S35) : Bool := (sluiceref03_First.f 2 kind x.f0 x.f1 y.f0 y.f1).getD false
theorem bel_f (kind : Int) (x y : S35) : sluiceref03_Below.f kind x.f0 x.f1 y.f0 y.f1 = some (bel kind x y) := by
  unfold bel sluiceref03_Below.f
  repeat' split
  all_goals rfl
theorem fst_f (kind : Int) (x y : S35) : sluiceref03_First.f 2 kind x.f0 x.f1 y.f0 y.f1 = some (fst kind x y) := by
  unfold fst sluiceref03_First.f
  simp only [sluiceref03_First.j0]
  repeat' split
  all_goals rfl
theorem rel25 : Rel 25 (bel 0) := ⟨fun args W => by go_simp, fun x y W => sluicelaw03_below0.calls x.f0 x.f1 y.f0 y.f1 _ W (by unfold sluicelaw03_below0.f; rw [bel_f]; rfl)⟩
theorem rel37 : Rel 37 (bel 1) := ⟨fun args W => by go_simp, fun x y W => sluicelaw03_below1.calls x.f0 x.f1 y.f0 y.f1 _ W (by unfold sluicelaw03_below1.f; rw [bel_f]; rfl)⟩
theorem rel39 : Rel 39 (bel 2) := ⟨fun args W => by go_simp, fun x y W => sluicelaw03_below2.calls x.f0 x.f1 y.f0 y.f1 _ W (by unfold sluicelaw03_below2.f; rw [bel_f]; rfl)⟩
theorem rel41 : Rel 41 (bel 3) := ⟨fun args W => by go_simp, fun x y W => sluicelaw03_below3.calls x.f0 x.f1 y.f0 y.f1 _ W (by unfold sluicelaw03_below3.f; rw [bel_f]; rfl)⟩
theorem rel43 : Rel 43 (bel 4) := ⟨fun args W => by go_simp, fun x y W => sluicelaw03_below4.calls x.f0 x.f1 y.f0 y.f1 _ W (by unfold sluicelaw03_below4.f; rw [bel_f]; rfl)⟩
theorem rel45 : Rel 45 (bel 5) := ⟨fun args W => by go_simp, fun x y W => sluicelaw03_below5.calls x.f0 x.f1 y.f0 y.f1 _ W (by unfold sluicelaw03_below5.f; rw [bel_f]; rfl)⟩
theorem rel26 : Rel 26 (fst 0) := ⟨fun args W => by go_simp, fun x y W => sluicelaw03_first0.calls 2 x.f0 x.f1 y.f0 y.f1 _ W (by unfold sluicelaw03_first0.f; rw [fst_f]; rfl)⟩
theorem rel38 : Rel 38 (fst 1) := ⟨fun args W => by go_simp, fun x y W => sluicelaw03_first1.calls 2 x.f0 x.f1 y.f0 y.f1 _ W (by unfold sluicelaw03_first1.f; rw [fst_f]; rfl)⟩
theorem rel40 : Rel 40 (fst 2) := ⟨fun args W => by go_simp, fun x y W => sluicelaw03_first2.calls 2 x.f0 x.f1 y.f0 y.f1 _ W (by unfold sluicelaw03_first2.f; rw [fst_f]; rfl)⟩
theorem rel42 : Rel 42 (fst 3) := ⟨fun args W => by go_simp, fun x y W => sluicelaw03_first3.calls 2 x.f0 x.f1 y.f0 y.f1 _ W (by unfold sluicelaw03_first3.f; rw [fst_f]; rfl)⟩
theorem rel44 : Rel 44 (fst 4) := ⟨fun args W => by go_simp, fun x y W => sluicelaw03_first4.calls 2 x.f0 x.f1 y.f0 y.f1 _ W (by unfold sluicelaw03_first4.f; rw [fst_f]; rfl)⟩
theorem rel46 : Rel 46 (fst 5) := ⟨fun args W => by go_simp, fun x y W => sluicelaw03_first5.calls 2 x.f0 x.f1 y.f0 y.f1 _ W (by unfold sluicelaw03_first5.f; rw [fst_f]; rfl)⟩
theorem bel_c (kind : Int) (x y : S35) (w : World) : Calls Try.prog 28 #[.int .i64 kind, vt x, vt y] w fun e w' => e = .returned (.bool (bel kind x y)) ∧ Below w.heap.size w w' :=
  sluiceref03_Below.calls kind x.f0 x.f1 y.f0 y.f1 _ w (bel_f kind x y)
set_option maxHeartbeats 2000000 in
theorem made_c (w : World) (B : Nat) (hB : B ≤ w.heap.size) (kind : Int) (hk : 0 ≤ kind ∧ kind ≤ 5) :
    Calls Try.prog 10 #[.int .i64 kind] w fun e w' => ∃ hb fb ff, e = .returned (.pointer (some ⟨hb, 0, none⟩)) ∧ w.heap.size ≤ hb ∧ Chain B w' hb fb ff (.slice none 0 0) [] ∧ Below w.heap.size w w' ∧ Rel fb (bel kind) ∧ Rel ff (fst kind) := by
  rcases (show kind = 0 ∨ kind = 1 ∨ kind = 2 ∨ kind = 3 ∨ kind = 4 ∨ kind = 5 by omega) with rfl | rfl | rfl | rfl | rfl | rfl
  · go_enter Try.func10, Try.ntmps10
    go_wp2_with (go_at_call 36; refine (new_c _ B hB 25 26).mono ?_; rintro e w1 ⟨hb, rfl, h1, h2, h3⟩)
    go_ret
    exact ⟨hb, 25, 26, rfl, h1, h2, h3, rel25, rel26⟩
  · go_enter Try.func10, Try.ntmps10
    go_wp2_with (go_at_call 36; refine (new_c _ B hB 37 38).mono ?_; rintro e w1 ⟨hb, rfl, h1, h2, h3⟩)
    go_ret
    exact ⟨hb, 37, 38, rfl, h1, h2, h3, rel37, rel38⟩
  · go_enter Try.func10, Try.ntmps10
    go_wp2_with (go_at_call 36; refine (new_c _ B hB 39 40).mono ?_; rintro e w1 ⟨hb, rfl, h1, h2, h3⟩)
    go_ret
    exact ⟨hb, 39, 40, rfl, h1, h2, h3, rel39, rel40⟩
  · go_enter Try.func10, Try.ntmps10
    go_wp2_with (go_at_call 36; refine (new_c _ B hB 41 42).mono ?_; rintro e w1 ⟨hb, rfl, h1, h2, h3⟩)
    go_ret
    exact ⟨hb, 41, 42, rfl, h1, h2, h3, rel41, rel42⟩
  · go_enter Try.func10, Try.ntmps10
    go_wp2_with (go_at_call 36; refine (new_c _ B hB 43 44).mono ?_; rintro e w1 ⟨hb, rfl, h1, h2, h3⟩)
    go_ret
    exact ⟨hb, 43, 44, rfl, h1, h2, h3, rel43, rel44⟩
  · go_enter Try.func10, Try.ntmps10
    go_wp2_with (go_at_call 36; refine (new_c _ B hB 45 46).mono ?_; rintro e w1 ⟨hb, rfl, h1, h2, h3⟩)
    go_ret
    exact ⟨hb, 45, 46, rfl, h1, h2, h3, rel45, rel46⟩
def kindOf (a : Int) : Int := if Int.tmod a 6 < 0 then Int.tmod a 6 + 6 else Int.tmod a 6
theorem kindOf_in (a : Int) : 0 ≤ kindOf a ∧ kindOf a ≤ 5 := by
  have h1 := Int.tmod_lt_of_pos a (b := 6) (by omega)
  have h2 : -6 < Int.tmod a 6 := by
    have := Int.lt_tmod_of_pos a (b := 6) (by omega)
    omega
  unfold kindOf
  split <;> omega
theorem kinds_c (a : Int) (w : World) : Calls Try.prog 9 #[.int .i64 a] w fun e w' => e = .returned (.int .i64 (kindOf a)) ∧ Below w.heap.size w w' :=
  (sluicelaw03_kinds.calls a (kindOf a) w (by
    have h := kindOf_in a
    unfold kindOf at h ⊢
    unfold sluicelaw03_kinds.f
    split
    · rename_i h1
      rw [if_pos h1] at h
      have : wrap64 (Int.tmod a 6 + 6) = Int.tmod a 6 + 6 := by unfold wrap64; omega
      rw [this]
    · rfl)).mono (by rintro e w' ⟨rfl, hd⟩; exact ⟨rfl, hd.below⟩)
/-- What reads as a list, for the printed contracts. -/
theorem rowC {w : World} {A : Option Addr} {n : Nat} {l : List S35} (hn : n = l.length) (hl : n ≤ 9223372036854775807) (h : Reads w w.heap.size 2 A n (flat l)) : Kd.C k35 w A l.length l := by
  subst hn
  refine ⟨rfl, hl, fun hn => ?_⟩
  obtain ⟨ad, e, _, hc⟩ := h.2 hn
  refine ⟨ad, e, fun j p hp => ?_⟩
  obtain ⟨hj, rfl⟩ := List.getElem?_eq_some_iff.1 hp
  refine ⟨ct l[j], rfl, k35_mk w l[j], fun i u hu => ?_⟩
  have hi : i < 2 := by have := (List.getElem?_eq_some_iff.1 hu).1; simpa [ct] using this
  exact hc (j * 2 + i) u (by rw [flat_get l j i hj hi]; exact hu)
theorem same_l (l : List S35) (hl : l.length ≤ 9223372036854775807) : ∀ (m i k : Nat), i + m = l.length → m + 1 ≤ k → sluicelaw03_same.l0 k l l (i : Int) = some true := by
  intro m
  induction m with
  | zero =>
    intro i k hi hk
    obtain ⟨k, rfl⟩ : ∃ q, k = q + 1 := ⟨k - 1, by omega⟩
    rw [sluicelaw03_same.l0, if_neg (by omega)]
  | succ m ih =>
    intro i k hi hk
    obtain ⟨k, rfl⟩ : ∃ q, k = q + 1 := ⟨k - 1, by omega⟩
    have w1 : wrap64 ((i : Int) + 1) = ((i + 1 : Nat) : Int) := by unfold wrap64; omega
    rw [sluicelaw03_same.l0, if_pos (by omega), if_pos (by omega), if_pos (by omega), w1, ih (i + 1) k (by omega) (by omega)]
    simp
theorem same_f (l : List S35) (hl : l.length ≤ 9223372036854775807) : sluicelaw03_same.f (l.length + 1) l l = some true := by
  unfold sluicelaw03_same.f
  rw [if_pos rfl]
  have := same_l l hl l.length 0 (l.length + 1) (by omega) (by omega)
  simpa using this
theorem same_c {w : World} {A A' : Option Addr} {n c c' : Nat} {l : List S35} (hn : n = l.length) (hl : n ≤ 9223372036854775807) (hr : Reads w w.heap.size 2 A n (flat l)) (hr' : Reads w w.heap.size 2 A' n (flat l)) (hc : n ≤ c) (hc' : n ≤ c') :
    Calls Try.prog 23 #[.slice A n c, .slice A' n c'] w fun e w' => e = .returned (.bool true) ∧ Below w.heap.size w w' := by
  have h1 := rowC hn hl hr
  have h2 := rowC hn hl hr'
  subst hn
  refine (sluicelaw03_same.calls (l.length + 1) A c l A' c' l true w h1 hc h2 hc' (same_f l hl)).mono ?_
  rintro e w' ⟨rfl, hd⟩
  first | exact ⟨rfl, hd.below⟩ | exact ⟨rfl, hd⟩
end CP
end Go.Proofs.Ythchppnfffllnaa
