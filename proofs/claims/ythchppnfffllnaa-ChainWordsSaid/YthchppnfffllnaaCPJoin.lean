/- Join; Insert, Join of a chain that is none. -/
import Derived.Test.YthchppnfffllnaaCPFns
set_option linter.unusedVariables false
set_option linter.unusedSimpArgs false
namespace Go.Proofs.Ythchppnfffllnaa
open Go.RowKit PChainScript
namespace CP
theorem insert_nil (x : S35) (w : World) : Calls Try.prog 11 #[.pointer none, vt x] w fun e w' => e = .returned (.bool false) ∧ Below w.heap.size w w' := by
  have b1 : Below w.heap.size w ((w.alloc (.cells #[.pointer none] 25)).alloc (.cells (ct x).toArray 35)) := ((Below.refl _ _).alloc (Nat.le_refl _) _).alloc (by simp) _
  obtain ⟨x0, x1⟩ := x
  simp only [ct] at b1
  go_enter Try.func11, Try.ntmps11
  go_wp2
  go_ret
  exact ⟨rfl, b1⟩
/-- How many came in. -/
def came (r f : S35 → S35 → Bool) : List S35 → List S35 → Nat
  | [], _ => 0
  | x :: xs, l => (if l.any (fun y => r y x) then 0 else 1) + came r f xs (insertL r f x l)
def joinL (r f : S35 → S35 → Bool) (xs l : List S35) : List S35 := xs.foldl (fun l x => insertL r f x l) l
theorem came_snoc (r f : S35 → S35 → Bool) (xs : List S35) (x : S35) (l : List S35) : came r f (xs ++ [x]) l = came r f xs l + (if (joinL r f xs l).any (fun y => r y x) then 0 else 1) := by
  induction xs generalizing l with
  | nil => simp [came, joinL]
  | cons a xs ih =>
    simp only [List.cons_append, came, ih]
    have : joinL r f (a :: xs) l = joinL r f xs (insertL r f a l) := rfl
    rw [this]
    omega
theorem joinL_snoc (r f : S35 → S35 → Bool) (xs : List S35) (x : S35) (l : List S35) : joinL r f (xs ++ [x]) l = insertL r f x (joinL r f xs l) := by simp [joinL]
theorem came_le (r f : S35 → S35 → Bool) (xs : List S35) (l : List S35) : came r f xs l ≤ xs.length := by
  induction xs generalizing l with
  | nil => simp [came]
  | cons a xs ih => have := ih (insertL r f a l); simp only [came, List.length_cons]; split <;> omega
theorem insAt_length {i : Nat} {x : S35} {m : List S35} (h : i ≤ m.length) : (insAt i x m).length = m.length + 1 := by
  unfold insAt; simp; omega
theorem insertL_length (r f : S35 → S35 → Bool) (x : S35) (l : List S35) : (insertL r f x l).length ≤ l.length + 1 := by
  unfold insertL
  split
  · omega
  · rw [insAt_length (pos_le _ _ _)]
    have : (cutL r x l).length ≤ l.length := List.length_filter_le _ _
    omega
theorem joinL_length (r f : S35 → S35 → Bool) (xs l : List S35) : (joinL r f xs l).length ≤ xs.length + l.length := by
  induction xs generalizing l with
  | nil => simp [joinL]
  | cons a xs ih =>
    have h1 := ih (insertL r f a l)
    have h2 := insertL_length r f a l
    have : joinL r f (a :: xs) l = joinL r f xs (insertL r f a l) := rfl
    rw [this, List.length_cons]
    omega
set_option maxRecDepth 100000 in
set_option maxHeartbeats 2000000 in
theorem join_c {fb ff : Nat} {r f : S35 → S35 → Bool} (hr : Rel fb r) (hf : Rel ff f) {B : Nat} {w : World} {hb : Nat} {v : Value} {l xs : List S35} (H : Chain B w hb fb ff v l) (hB : B ≤ w.heap.size) {g o n c : Nat}
    (hx : Reads w w.heap.size 2 (some ⟨g, o, none⟩) n (flat xs)) (hn : n = xs.length) (hnc : n ≤ c) (hg : g < w.heap.size) (hgh : g ≠ hb) (hgr : some g ≠ v.ownBlock) (hl : (l.length + n) * 16 ≤ 140737488355328) :
    Calls Try.prog 27 #[.pointer (some ⟨hb, 0, none⟩), .slice (some ⟨g, o, none⟩) n c] w fun e w' => e = .returned (.int .i64 (came r f xs l)) ∧ ∃ v', Chain B w' hb fb ff v' (joinL r f xs l) ∧ Fr w w' hb v.ownBlock ∧ (v'.ownBlock = v.ownBlock ∨ ∃ b, v'.ownBlock = some b ∧ w.heap.size ≤ b) := by
  have HN := Lib.hid hn
  have HX := Lib.hid hx
  have HL := Lib.hid hl
  have hn43 : n ≤ 8796093022208 := by omega
  have hr0 := Lib.hid hr
  have hf0 := Lib.hid hf
  clear hn hx hr hf hl
  go_enter Try.func27, Try.ntmps27
  go_wp2_with fail
  go_loopw [5, 10] (fun s5 s10 wr => ∃ (i : Nat) (v' : Value) (k : Nat), s5 = .int .i64 k ∧ s10 = .int .i64 i ∧ i ≤ n ∧ k ≤ i ∧ Hid (k = came r f (xs.take i) l) ∧ Hid (Chain B wr hb fb ff v' (joinL r f (xs.take i) l)) ∧ Hid (Fr w wr hb v.ownBlock) ∧ Hid (v'.ownBlock = v.ownBlock ∨ ∃ b, v'.ownBlock = some b ∧ w.heap.size ≤ b)) (fun _ s10 _ => n - (intOf s10).toNat)
  case atStart => exact ⟨0, v, 0, rfl, rfl, by omega, by omega, Lib.hid rfl, Lib.hid H, Lib.hid (Fr.refl _ _ _), Lib.hid (.inl rfl)⟩
  case round =>
    obtain ⟨i, v1, k, rfl, rfl, hi, hk, HK, HC, HF, HV⟩ := hrel
    by_cases hlt : i < n
    · have hil : i < xs.length := by rw [← HN.out]; exact hlt
      obtain ⟨ad, hA, _, hcells⟩ := HX.out.2 (by omega)
      have hadd : ∀ j, (⟨g, o, none⟩ : Addr).add j = ⟨g, o + j, none⟩ := fun j => by unfold Addr.add; split <;> simp_all
      injection hA with hA
      subst hA
      have c0 := hcells (i * 2 + 0) _ (by rw [flat_get xs i 0 hil (by omega)]; rfl)
      have c1 := hcells (i * 2 + 1) _ (by rw [flat_get xs i 1 hil (by omega)]; rfl)
      rw [hadd] at c0 c1
      have c0 := (fr_cell HF.out (p := ⟨g, o + (i * 2 + 0), none⟩) hg hgh hgr).trans c0
      have c1 := (fr_cell HF.out (p := ⟨g, o + (i * 2 + 1), none⟩) hg hgh hgr).trans c1
      have c0 : wr.cell? ⟨g, o + i * 2, none⟩ = some (.int .i64 xs[i].f0) := c0
      have c1 : wr.cell? ⟨g, o + i * 2 + 1, none⟩ = some (.int .i64 xs[i].f1) := by rw [Nat.add_assoc]; exact c1
      have htk : xs.take (i + 1) = xs.take i ++ [xs[i]] := List.take_succ_eq_append_getElem hil
      have hlj : (joinL r f (xs.take i) l).length ≤ i + l.length := by have := joinL_length r f (xs.take i) l; rw [List.length_take] at this; omega
      obtain ⟨x, hx⟩ : ∃ x, x = xs[i] := ⟨_, rfl⟩
      rw [← hx] at c0 c1 htk
      clear hcells hx
      have hin := insert_c hr0.out hf0.out (w := wr.alloc (.cells #[.int .i64 x.f0, .int .i64 x.f1] 35)) (HC.out.below ((Below.refl _ _).alloc (Nat.le_refl _) _)) x (by have := HF.out.size; simp; omega) (by have := HL.out; omega)
      have hbo := HC.out
      obtain ⟨x0, x1⟩ := x
      have HT := Lib.hid htk
      clear htk hlj hbo
      go_upto_region 5 with fail
      cases hany : (joinL r f (xs.take i) l).any (fun y => r y ⟨x0, x1⟩) with
      | true =>
        rw [hany] at hin
        have HA := Lib.hid hany
        clear hany
        go_wp2_with (go_at_call 11; refine hin.mono ?_; rintro e w2 ⟨rfl, v2, H2, F2, V2⟩)
        go_roundw
        case rel => exact ⟨i + 1, v2, k, rfl, by go_num, by omega, by omega, Lib.hid (by rw [HT.out, came_snoc, HA.out, HK.out]; rfl), Lib.hid (by rw [HT.out, joinL_snoc]; exact H2),
          Lib.hid ((HF.out.alloc _).trans F2 (by rcases HV.out with h | ⟨b, h, hb⟩; exact .inl h; exact .inr ⟨b, h, hb⟩)), Lib.hid (by
            rcases V2 with h | ⟨b, h, hb⟩
            · rw [h]; exact HV.out
            · exact .inr ⟨b, h, by have := HF.out.size; simp at hb; omega⟩)⟩
        case measure => simp [intOf]; omega
      | false =>
        rw [hany] at hin
        have HA := Lib.hid hany
        clear hany
        go_wp2_with (go_at_call 11; refine hin.mono ?_; rintro e w2 ⟨rfl, v2, H2, F2, V2⟩)
        go_roundw
        case rel => exact ⟨i + 1, v2, k + 1, by go_num, by go_num, by omega, by omega, Lib.hid (by rw [HT.out, came_snoc, HA.out, HK.out]; rfl), Lib.hid (by rw [HT.out, joinL_snoc]; exact H2),
          Lib.hid ((HF.out.alloc _).trans F2 (by rcases HV.out with h | ⟨b, h, hb⟩; exact .inl h; exact .inr ⟨b, h, hb⟩)), Lib.hid (by
            rcases V2 with h | ⟨b, h, hb⟩
            · rw [h]; exact HV.out
            · exact .inr ⟨b, h, by have := HF.out.size; simp at hb; omega⟩)⟩
        case measure => simp [intOf]; omega
    · have hin : i = n := by omega
      subst hin
      go_wp2_with fail
      go_ret
      have htk : xs.take i = xs := List.take_of_length_le (by rw [← HN.out]; exact Nat.le_refl _)
      have hK := HK.out
      have hC := HC.out
      rw [htk] at hK hC
      exact ⟨by rw [← hK]; rfl, v1, hC, HF.out, HV.out⟩
set_option maxHeartbeats 2000000 in
theorem join_nil1 (x : S35) (w : World) : Calls Try.prog 27 #[.pointer none, .slice (some ⟨w.heap.size, 0, none⟩) 1 1] (w.alloc (.cells (ct x).toArray 35)) fun e w' => e = .returned (.int .i64 0) ∧ Below w.heap.size w w' := by
  have hk := heap_alloc_new w (.cells (ct x).toArray 35)
  have b1 : Below w.heap.size w (w.alloc (.cells (ct x).toArray 35)) := (Below.refl _ _).alloc (Nat.le_refl _) _
  have hsz := b1.size
  obtain ⟨x0, x1⟩ := x
  simp only [ct] at *
  have c0 : (w.alloc (.cells #[.int .i64 x0, .int .i64 x1] 35)).cell? ⟨w.heap.size, 0, none⟩ = some (.int .i64 x0) := blk_cell hk 0
  have c1 : (w.alloc (.cells #[.int .i64 x0, .int .i64 x1] 35)).cell? ⟨w.heap.size, 1, none⟩ = some (.int .i64 x1) := blk_cell hk 1
  obtain ⟨g, hg⟩ : ∃ g, g = w.heap.size := ⟨_, rfl⟩
  rw [← hg] at c0 c1 ⊢
  have HG := Lib.hid hg
  clear hg hk
  generalize (w.alloc (.cells #[.int .i64 x0, .int .i64 x1] 35)) = W at *
  go_enter Try.func27, Try.ntmps27
  go_wp2_with fail
  refine wp_loop_rounds 2 ?_
  rw [rounds_succ]
  go_wp2_with (go_at_call 11; refine (insert_nil ⟨x0, x1⟩ _).mono ?_; rintro e w2 ⟨rfl, b2⟩)
  rw [rounds_succ]
  go_wp2_with fail
  go_ret
  exact ⟨rfl, by rw [HG.out]; exact b1.trans (((Below.refl W.heap.size W).alloc (Nat.le_refl _) _ |>.trans (b2.mono (by simp))).mono hsz)⟩
end CP
end Go.Proofs.Ythchppnfffllnaa
