/- known: what the document fixes. -/
import Derived.Test.YthchppnfffllnaaCPJoin
set_option linter.unusedVariables false
set_option linter.unusedSimpArgs false
namespace Go.Proofs.Ythchppnfffllnaa
open Go.RowKit PChainScript
namespace CP
theorem insert_to {fb ff : Nat} {r f : S35 → S35 → Bool} (hr : Rel fb r) (hf : Rel ff f) {B : Nat} {w : World} {hb : Nat} {v : Value} {l l' : List S35} (H : Chain B w hb fb ff v l) (x : S35) (hB : B ≤ w.heap.size) (hl : (l.length + 1) * 16 ≤ 140737488355328)
    {b : Bool} (h1 : (!(l.any (fun y => r y x))) = b) (h2 : insertL r f x l = l') :
    Calls Try.prog 11 #[.pointer (some ⟨hb, 0, none⟩), vt x] w fun e w' => e = .returned (.bool b) ∧ ∃ v', Chain B w' hb fb ff v' l' ∧ Fr w w' hb v.ownBlock ∧ (v'.ownBlock = v.ownBlock ∨ ∃ b, v'.ownBlock = some b ∧ w.heap.size ≤ b) := by
  have := insert_c hr hf H x hB hl
  rw [h1, h2] at this
  exact this
theorem k1 : insertL (bel 0) (fst 0) ⟨3, 5⟩ [] = [⟨3, 5⟩] := by rfl
theorem k2 : insertL (bel 0) (fst 0) ⟨5, 3⟩ [⟨3, 5⟩] = [⟨3, 5⟩, ⟨5, 3⟩] := by rfl
theorem k3 : insertL (bel 0) (fst 0) ⟨4, 5⟩ [⟨3, 5⟩, ⟨5, 3⟩] = [⟨3, 5⟩, ⟨5, 3⟩] := by rfl
theorem made0 (w : World) (B : Nat) (hB : B ≤ w.heap.size) :
    Calls Try.prog 10 #[.int .i64 0] w fun e w' => ∃ hb, e = .returned (.pointer (some ⟨hb, 0, none⟩)) ∧ w.heap.size ≤ hb ∧ Chain B w' hb 25 26 (.slice none 0 0) [] ∧ Below w.heap.size w w' := by
  go_enter Try.func10, Try.ntmps10
  go_wp2_with (go_at_call 36; refine (new_c _ B hB 25 26).mono ?_; rintro e w1 ⟨hb, rfl, h1, h2, h3⟩)
  go_ret
  exact ⟨hb, rfl, h1, h2, h3⟩
/-- What differs behind a call on a chain that was made behind B. -/
theorem fr_low {B : Nat} {w w' : World} {hb fb ff : Nat} {v : Value} {l : List S35} (H : Chain B w hb fb ff v l) (hB : B ≤ w.heap.size) (F : Fr w w' hb v.ownBlock) : Below B w w' :=
  F.below hB H.base (fun k hk => (H.own.lt k hk).1)
set_option maxRecDepth 100000 in
set_option maxHeartbeats 4000000 in
theorem known_c (w : World) : Calls Try.prog 8 #[] w fun e w' => e = .returned (.bool true) ∧ Below w.heap.size w w' := by
  obtain ⟨B, hBB⟩ : ∃ B, B = w.heap.size := ⟨_, rfl⟩
  rw [← hBB]
  have hB0 : B ≤ w.heap.size := by omega
  clear hBB
  go_enter Try.func8, Try.ntmps8
  go_upto_region 2 with (go_at_call 10; refine (made0 _ B hB0).mono ?_; rintro e w1 ⟨hb, rfl, hg, H1, b1⟩)
  have c1 : Below B w w1 := b1.mono hB0
  have hB1 : B ≤ w1.heap.size := Nat.le_trans hB0 b1.size
  clear b1 hg
  go_upto_region 4 with (first
    | (go_at_call 11; refine (insert_to rel25 rel26 H1 ⟨3, 5⟩ hB1 (b := true) (by decide) rfl k1).mono ?_; rintro e w2 ⟨rfl, v2, H2, F2, _⟩; have b2 := fr_low H1 hB1 F2; have hB2 := Nat.le_trans hB1 b2.size; have c2 := c1.trans b2; clear c1 H1 F2 b2)
    | (go_at_call 11; refine (insert_to rel25 rel26 H2 ⟨5, 3⟩ hB2 (b := true) (by decide) rfl k2).mono ?_; rintro e w3 ⟨rfl, v3, H3, F3, _⟩; have b3 := fr_low H2 hB2 F3; have hB3 := Nat.le_trans hB2 b3.size; have c3 := c2.trans b3; clear c2 H2 F3 b3)
    | (go_at_call 11; refine (insert_to rel25 rel26 H3 ⟨4, 5⟩ hB3 (b := false) (by decide) rfl k3).mono ?_; rintro e w4 ⟨rfl, v4, H4, F4, _⟩; have b4 := fr_low H3 hB3 F4; have hB4 := Nat.le_trans hB3 b4.size; have c4 := c3.trans b4; clear c3 H3 F4 b4))
  have st : ∀ {W W' : World}, Below B w W → Chain B W hb 25 26 v4 [⟨3, 5⟩, ⟨5, 3⟩] → Below W.heap.size W W' → Below B w W' ∧ Chain B W' hb 25 26 v4 [⟨3, 5⟩, ⟨5, 3⟩] := fun c h b => ⟨c.trans (b.mono (Nat.le_trans hB0 c.size)), h.below b⟩
  go_upto_region 6 with (go_at_call 22; refine (clear_nil _).mono ?_; rintro e w5 ⟨rfl, b5⟩)
  obtain ⟨c5, H5⟩ := st c4 H4 b5
  clear c4 H4 b5
  go_upto_region 8 with (first
    | (go_at_call 11; refine (insert_nil ⟨0, 0⟩ _).mono ?_; rintro e w6 ⟨rfl, b6⟩; obtain ⟨c6, H6⟩ := st c5 H5 b6; clear c5 H5 b6)
    | (go_at_call 27; refine (join_nil1 ⟨0, 0⟩ _).mono ?_; rintro e w7 ⟨rfl, b7⟩; obtain ⟨c7, H7⟩ := st c6 H6 b7; clear c6 H6 b7)
    | (go_at_call 14; refine (covers_nil ⟨0, 0⟩ _).mono ?_; rintro e w8 ⟨rfl, b8⟩; obtain ⟨c8, H8⟩ := st c7 H7 b8; clear c7 H7 b8)
    | (go_at_call 16; refine (cut_nil ⟨0, 0⟩ _).mono ?_; rintro e w9 ⟨rfl, b9⟩; obtain ⟨c9, H9⟩ := st c8 H8 b9; clear c8 H8 b9)
    | (go_at_call 18; refine (list_nil _).mono ?_; rintro e w10 ⟨rfl, b10⟩; obtain ⟨c10, H10⟩ := st c9 H9 b10; clear c9 H9 b10)
    | (go_at_call 19; refine (len_nil _).mono ?_; rintro e w11 ⟨rfl, b11⟩; obtain ⟨c11, H11⟩ := st c10 H10 b11; clear c10 H10 b11)
    | (go_at_call 20; refine (copy_nil _).mono ?_; rintro e w12 ⟨rfl, b12⟩; obtain ⟨c12, H12⟩ := st c11 H11 b12; clear c11 H11 b12))
  have lit : ∀ w1 : World, Reads (w1.alloc (.cells #[.int .i64 3, .int .i64 5, .int .i64 5, .int .i64 3] 35)) (w1.heap.size + 1) 2 (some ⟨w1.heap.size, 0, none⟩) 2 (flat [⟨3, 5⟩, ⟨5, 3⟩]) := fun w1 => by
    have hh := World.ownsRow_lit (base := 0) (e := 35) (size := 2) w1 #[.int .i64 3, .int .i64 5, .int .i64 5, .int .i64 3] 2 (by omega) (by decide) (by rfl)
    have := Reads.of_own (xs := flat [⟨3, 5⟩, ⟨5, 3⟩]) (by simpa [flat, ct] using hh)
    simpa using this
  have hB12 := c12.size
  go_wp2_with (first
    | (go_at_call 18; refine (list_c H12 (by decide)).mono ?_; rintro e w13 ⟨v13, rfl, o13, b13⟩; obtain ⟨a13, k13, rfl⟩ := own_shape o13; obtain ⟨c13, H13⟩ := st c12 H12 b13; clear c12 H12 b13))
  have r1 : Reads (w13.alloc (.cells #[.int .i64 3, .int .i64 5, .int .i64 5, .int .i64 3] 35)) (w13.alloc (.cells #[.int .i64 3, .int .i64 5, .int .i64 5, .int .i64 3] 35)).heap.size 2 a13 2 (flat [⟨3, 5⟩, ⟨5, 3⟩]) := ((Reads.of_own o13).alloc (Nat.le_refl _) _).more (by simp)
  have r2 := (lit w13).more (B' := (w13.alloc (.cells #[.int .i64 3, .int .i64 5, .int .i64 5, .int .i64 3] 35)).heap.size) (by simp)
  have hk : 2 ≤ k13 := by
    obtain ⟨g, k', hv, _, _, hk, _⟩ := Own.form o13 (by decide)
    injection hv with _ _ h3
    simp at hk
    omega
  refine (same_c (l := [⟨3, 5⟩, ⟨5, 3⟩]) rfl (by decide) r1 r2 hk (by simp)).mono ?_
  rintro e w14 ⟨rfl, b14⟩
  go_wp2
  go_ret
  exact ⟨rfl, (c13.alloc (Nat.le_trans hB0 c13.size) _).trans (b14.mono (by have := c13.size; simp; omega))⟩
end CP
end Go.Proofs.Ythchppnfffllnaa
