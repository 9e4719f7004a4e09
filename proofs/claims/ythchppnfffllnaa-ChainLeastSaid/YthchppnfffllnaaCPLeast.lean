/- ChainLeast: the walk. -/
import Derived.Test.YthchppnfffllnaaCPMin
import Derived.Test.YthchppnfffllnaaCPCuts
set_option linter.unusedVariables false
set_option linter.unusedSimpArgs false
namespace Go.Proofs.Ythchppnfffllnaa
open Go.RowKit PChainScript
attribute [local go_sem high] eqA35
namespace CP
theorem Chain.drew {B : Nat} {w : World} {hb fb ff : Nat} {v : Value} {l : List S35} (h : Chain B w hb fb ff v l) : Chain B w.drew hb fb ff v l := ⟨h.base, h.blk, h.own⟩
theorem covers_to {fb : Nat} {r : S35 → S35 → Bool} (hr : Rel fb r) {B : Nat} {w : World} {hb ff : Nat} {v : Value} {l : List S35} (H : Chain B w hb fb ff v l) (x : S35) {b : Bool} (h : l.any (fun y => r y x) = b) :
    Calls Try.prog 14 #[.pointer (some ⟨hb, 0, none⟩), vt x] w fun e w' => e = .returned (.bool b) ∧ Below w.heap.size w w' := by
  have := covers_c hr H x
  rw [h] at this
  exact this
theorem below0_to (x y : S35) {b : Bool} (h : bel 0 x y = b) (w : World) : Calls Try.prog 25 #[vt x, vt y] w fun e w' => e = .returned (.bool b) ∧ Below w.heap.size w w' := by
  have := rel25.does x y w
  rw [h] at this
  exact this
theorem first0_to (x y : S35) {b : Bool} (h : fst 0 x y = b) (w : World) : Calls Try.prog 26 #[vt x, vt y] w fun e w' => e = .returned (.bool b) ∧ Below w.heap.size w w' := by
  have := rel26.does x y w
  rw [h] at this
  exact this
theorem len_n2 {B : Nat} {w : World} {hb fb ff n : Nat} {v : Value} {l : List S35} (H : Chain B w hb fb ff v l) (hn : Hid (n = l.length)) :
    Calls Try.prog 19 #[.pointer (some ⟨hb, 0, none⟩)] w fun e w' => e = .returned (.int .i64 n) ∧ Below w.heap.size w w' := by
  obtain rfl := hn.out
  exact len_c H
def eqB (x y : S35) : Bool := x.f0 == y.f0 && x.f1 == y.f1
theorem eqB_iff (x y : S35) : eqB x y = true ↔ x = y := by
  unfold eqB
  constructor
  · intro h; simp at h; exact s_ext h.1 h.2
  · rintro rfl; simp
theorem cells_of {B : Nat} {w : World} {A : Option Addr} {n : Nat} {l : List S35} (hr : Reads w w.heap.size 2 A n (flat l)) (hn : n = l.length) (hB : B = w.heap.size) (ha : 0 < n → ∃ b off, A = some ⟨b, off, none⟩) :
    0 < n → ∃ b off, A = some ⟨b, off, none⟩ ∧ b < B ∧ ∀ W, Below B w W → ∀ i, (h : i < l.length) → W.cell? ⟨b, off + i * 2, none⟩ = some (.int .i64 l[i].f0) ∧ W.cell? ⟨b, off + i * 2 + 1, none⟩ = some (.int .i64 l[i].f1) := fun h => by
  obtain ⟨b, off, rfl⟩ := ha h
  obtain ⟨ad, e, hb, hc⟩ := hr.2 h
  injection e with e
  subst e
  simp only at hb
  refine ⟨b, off, rfl, by omega, fun W hW i hi => ?_⟩
  have hadd : ∀ j, (⟨b, off, none⟩ : Addr).add j = ⟨b, off + j, none⟩ := fun j => by unfold Addr.add; split <;> simp_all
  have c0 := hc (i * 2 + 0) _ (by rw [flat_get l i 0 hi (by omega)]; rfl)
  have c1 := hc (i * 2 + 1) _ (by rw [flat_get l i 1 hi (by omega)]; rfl)
  rw [hadd] at c0 c1
  exact ⟨(hW.cell (p := ⟨b, off + i * 2, none⟩) (by simp; omega)).trans c0, (hW.cell (p := ⟨b, off + i * 2 + 1, none⟩) (by simp; omega)).trans c1⟩
set_option maxRecDepth 100000 in
set_option maxHeartbeats 4000000 in
theorem least_c {w : World} {A A' : Option Addr} {n c m c' : Nat} {l t : List S35} (hr : Reads w w.heap.size 2 A n (flat l)) (hn : n = l.length) (hl : (n + 1) * 16 ≤ 140737488355328) (hnc : n ≤ c) (hla : 0 < n → ∃ b off, A = some ⟨b, off, none⟩)
    (ht : Reads w w.heap.size 2 A' m (flat t)) (hm : m = t.length) (hml : m * 16 ≤ 140737488355328) (hmc : m ≤ c') (hta : 0 < m → ∃ b off, A' = some ⟨b, off, none⟩) :
    Calls Try.prog 4 #[.slice A n c, .slice A' m c'] w fun e w' => e = .returned (.bool true) ∧ Below w.heap.size w w' := by
  obtain ⟨B, hB⟩ : ∃ B, B = w.heap.size := ⟨_, rfl⟩
  have hpl := Lib.hid (cells_of hr hn hB hla)
  have hpm := Lib.hid (cells_of ht hm hB hta)
  rw [← hB]
  have hB0 : B ≤ w.heap.size := by omega
  have c0 : Below B w w := Below.refl _ _
  have HN := Lib.hid hn
  have HM := Lib.hid hm
  clear hr ht hn hm hB hla hta
  have hz : ∀ {W : World}, Below B w W → B ≤ W.heap.size := fun h => Nat.le_trans hB0 h.size
  have stb : ∀ {W W' : World}, Below B w W → Below W.heap.size W W' → Below B w W' := fun c b => c.trans (b.mono (hz c))
  go_enter Try.func4, Try.ntmps4
  go_upto_region 2 with (go_at_call 10; refine (made0 _ B hB0).mono ?_; rintro e w1 ⟨hb, rfl, hhb, H1, b1⟩)
  have c1 := stb c0 b1
  clear b1 c0 hhb
  go_upto_region 4 with (go_at_call 8; refine (known_c _).mono ?_; rintro e w4 ⟨rfl, b4⟩)
  have c4 := stb c1 b4
  have H4 := H1.below b4
  clear c1 b4 H1
  go_wp2_with fail
  go_loopw [6, 7] (fun s6 s7 wr => ∃ (i k : Nat) (v : Value) (L : List S35), s6 = .int .i64 k ∧ s7 = .int .i64 i ∧ i ≤ n ∧ L.length ≤ i ∧ Hid (k = L.length) ∧ Hid (L = joinL (bel 0) (fst 0) (l.take i) []) ∧ Hid (Chain B wr hb 25 26 v L) ∧ Hid (Below B w wr)) (fun _ s7 _ => n - (intOf s7).toNat)
  case atStart => exact ⟨0, 0, _, [], rfl, rfl, by omega, by simp, Lib.hid rfl, Lib.hid rfl, Lib.hid H4, Lib.hid c4⟩
  case round =>
    clear H4 c4
    obtain ⟨i, k, v, L, rfl, rfl, hi, hLi, HK, HL, HC, HCR⟩ := hrel
    by_cases hlt : i < n
    · obtain ⟨gl, ol, rfl, hgl, hcell⟩ := hpl.out (by omega)
      have hil : i < l.length := by rw [← HN.out]; exact hlt
      have cr := HCR.out
      obtain ⟨e0, e1⟩ := hcell _ cr i hil
      have htk : l.take (i + 1) = l.take i ++ [l[i]] := List.take_succ_eq_append_getElem hil
      obtain ⟨x, hx⟩ : ∃ x, x = l[i] := ⟨_, rfl⟩
      rw [← hx] at e0 e1 htk
      have HX := Lib.hid hx
      have hLb : (L.length + 1) * 16 ≤ 140737488355328 := by omega
      have hL2 := insertL_length (bel 0) (fst 0) x L
      have HL2 : Hid (insertL (bel 0) (fst 0) x L = joinL (bel 0) (fst 0) (l.take (i + 1)) []) := Lib.hid (by rw [htk, joinL_snoc, HL.out])
      have hcv : (insertL (bel 0) (fst 0) x L).any (fun y => bel 0 y x) = true := by
        have hg := good_join0 (l.take (i + 1))
        rw [← HL2.out] at hg
        obtain ⟨y, hy, hyx⟩ := hg.cover x (by rw [htk]; simp)
        exact List.any_eq_true.2 ⟨y, hy, hyx⟩
      have HB2 := Lib.hid hcv
      clear hx htk hcv
      obtain ⟨x0, x1⟩ := x
      simp only at e0 e1
      go_upto_region 8 with fail
      go_cut [50] (fun s wx => s = .bool false ∧ ∃ v', Chain B wx hb 25 26 v' (insertL (bel 0) (fst 0) ⟨x0, x1⟩ L) ∧ Below B w wx)
      case first =>
        cases hb0 : L.any (fun y => bel 0 y ⟨x0, x1⟩) with
        | true =>
          have HB0 := Lib.hid hb0
          have HB1 : Hid ((!(L.any (fun y => bel 0 y ⟨x0, x1⟩))) = false) := Lib.hid (by rw [hb0]; rfl)
          clear hb0
          refine wp_region_held_drew (S := fun w' => w'.cell? ⟨gl, ol + i * 2, none⟩ = some (.int .i64 x0) ∧ w'.cell? ⟨gl, ol + i * 2 + 1, none⟩ = some (.int .i64 x1)) (by kernel_rfl) ⟨e0, e1⟩ (fun hHeld => ?_)
          refine take_d (v := ?_) 0 29 rfl rfl (by kernel_rfl) (by kernel_rfl) (by kernel_rfl) (fun _ _ _ h => h) (by kernel_rfl) ?_ (by assumption) ?_
          rotate_left
          · (intro w hSw; (try dsimp only at hSw); go_simp; first | done | with_reducible rfl)
          try simp only [Act.put, List.setIfInBounds_toArray, List.set_cons_zero, List.set_cons_succ]
          refine take_d (v := ?_) 1 30 rfl rfl (by kernel_rfl) (by kernel_rfl) (by kernel_rfl) (fun _ _ _ h => h) (by kernel_rfl) ?_ (by assumption) ?_
          rotate_left
          · (intro w hSw; (try dsimp only at hSw); go_simp; first | done | with_reducible rfl)
          try simp only [Act.put, List.setIfInBounds_toArray, List.set_cons_zero, List.set_cons_succ]
          refine take_d (v := ?_) 2 31 rfl rfl (by kernel_rfl) (by kernel_rfl) (by kernel_rfl) (fun _ _ _ h => h) (by kernel_rfl) ?_ (by assumption) ?_
          rotate_left
          · (intro w hSw; (try dsimp only at hSw); go_simp; first | done | with_reducible rfl)
          try simp only [Act.put, List.setIfInBounds_toArray, List.set_cons_zero, List.set_cons_succ]
          refine take_d (v := ?_) 3 32 rfl rfl (by kernel_rfl) (by kernel_rfl) (by kernel_rfl) (fun _ _ _ h => h) (by kernel_rfl) ?_ (by assumption) ?_
          rotate_left
          · (intro w hSw; (try dsimp only at hSw); go_simp; first | done | with_reducible rfl)
          try simp only [Act.put, List.setIfInBounds_toArray, List.set_cons_zero, List.set_cons_succ]
          refine take_d (v := ?_) 4 33 rfl rfl (by kernel_rfl) (by kernel_rfl) (by kernel_rfl) (fun _ _ _ h => h) (by kernel_rfl) ?_ (by assumption) ?_
          rotate_left
          · (intro w hSw; (try dsimp only at hSw); go_simp; first | done | with_reducible rfl)
          try simp only [Act.put, List.setIfInBounds_toArray, List.set_cons_zero, List.set_cons_succ]
          refine take_d (v := ?_) 6 35 rfl rfl (by kernel_rfl) (by kernel_rfl) (by kernel_rfl) (fun _ _ _ h => h) (by kernel_rfl) ?_ (by assumption) ?_
          rotate_left
          · (intro w hSw; (try dsimp only at hSw); go_simp; first | done | with_reducible rfl)
          try simp only [Act.put, List.setIfInBounds_toArray, List.set_cons_zero, List.set_cons_succ]
          refine take_d (v := ?_) 7 36 rfl rfl (by kernel_rfl) (by kernel_rfl) (by kernel_rfl) (fun _ _ _ h => h) (by kernel_rfl) ?_ (by assumption) ?_
          rotate_left
          · (intro w hSw; (try dsimp only at hSw); go_simp; first | done | with_reducible rfl)
          try simp only [Act.put, List.setIfInBounds_toArray, List.set_cons_zero, List.set_cons_succ]
          refine take_d (v := ?_) 8 37 rfl rfl (by kernel_rfl) (by kernel_rfl) (by kernel_rfl) (fun _ _ _ h => h) (by kernel_rfl) ?_ (by assumption) ?_
          rotate_left
          · (intro w hSw; (try dsimp only at hSw); go_simp; first | done | with_reducible rfl)
          try simp only [Act.put, List.setIfInBounds_toArray, List.set_cons_zero, List.set_cons_succ]
          refine take_d (v := ?_) 9 38 rfl rfl (by kernel_rfl) (by kernel_rfl) (by kernel_rfl) (fun _ _ _ h => h) (by kernel_rfl) ?_ (by assumption) ?_
          rotate_left
          · (intro w hSw; (try dsimp only at hSw); go_simp; first | done | with_reducible rfl)
          try simp only [Act.put, List.setIfInBounds_toArray, List.set_cons_zero, List.set_cons_succ]
          refine take_d (v := ?_) 10 39 rfl rfl (by kernel_rfl) (by kernel_rfl) (by kernel_rfl) (fun _ _ _ h => h) (by kernel_rfl) ?_ (by assumption) ?_
          rotate_left
          · (intro w hSw; (try dsimp only at hSw); go_simp; first | done | with_reducible rfl)
          try simp only [Act.put, List.setIfInBounds_toArray, List.set_cons_zero, List.set_cons_succ]
          refine wpAnyH_ready (rs := [5]) (by kernel_rfl) (by simp) ?_
          refine AllReadyH.cons rfl (fun K hK => ?_) AllReadyH.nil
          go_simp
          (refine (covers_to rel25 HC.out.drew ⟨x0, x1⟩ HB0.out).mono ?_; rintro e wa ⟨rfl, ba⟩; have ca := cr.drew.trans (ba.mono (hz cr.drew)); have Ca := HC.out.drew.below ba; have sa := hcell _ ca i hil)
          go_wp2_with fail
          refine hK.out _ _ ⟨(by have := sa.1; rw [← HX.out] at this; exact this), (by have := sa.2; rw [← HX.out] at this; exact this)⟩ (fun hHeld => ?_)
          clear hK K
          try simp only [Act.put, List.setIfInBounds_toArray, List.set_cons_zero, List.set_cons_succ]
          refine wpAnyH_ready (rs := [11]) (by kernel_rfl) (by simp) ?_
          refine AllReadyH.cons rfl (fun K hK => ?_) AllReadyH.nil
          go_simp
          (refine (insert_to rel25 rel26 Ca ⟨x0, x1⟩ (hz ca) hLb HB1.out rfl).mono ?_; rintro e wb ⟨rfl, vb, Cb, Fb, _⟩; have cb := ca.trans (fr_low Ca (hz ca) Fb); have sb := hcell _ cb i hil)
          go_wp2_with fail
          refine hK.out _ _ ⟨(by have := sb.1; rw [← HX.out] at this; exact this), (by have := sb.2; rw [← HX.out] at this; exact this)⟩ (fun hHeld => ?_)
          clear hK K
          try simp only [Act.put, List.setIfInBounds_toArray, List.set_cons_zero, List.set_cons_succ]
          refine take_d (v := ?_) 12 41 rfl rfl (by kernel_rfl) (by kernel_rfl) (by kernel_rfl) (fun _ _ _ h => h) (by kernel_rfl) ?_ (by assumption) ?_
          rotate_left
          · (intro w hSw; (try dsimp only at hSw); go_simp; first | done | with_reducible rfl)
          try simp only [Act.put, List.setIfInBounds_toArray, List.set_cons_zero, List.set_cons_succ]
          refine take_d (v := ?_) 13 42 rfl rfl (by kernel_rfl) (by kernel_rfl) (by kernel_rfl) (fun _ _ _ h => h) (by kernel_rfl) ?_ (by assumption) ?_
          rotate_left
          · (intro w hSw; (try dsimp only at hSw); go_simp; first | done | with_reducible rfl)
          try simp only [Act.put, List.setIfInBounds_toArray, List.set_cons_zero, List.set_cons_succ]
          refine take_d (v := ?_) 14 43 rfl rfl (by kernel_rfl) (by kernel_rfl) (by kernel_rfl) (fun _ _ _ h => h) (by kernel_rfl) ?_ (by assumption) ?_
          rotate_left
          · (intro w hSw; (try dsimp only at hSw); go_simp; first | done | with_reducible rfl)
          try simp only [Act.put, List.setIfInBounds_toArray, List.set_cons_zero, List.set_cons_succ]
          refine take_d (v := ?_) 15 44 rfl rfl (by kernel_rfl) (by kernel_rfl) (by kernel_rfl) (fun _ _ _ h => h) (by kernel_rfl) ?_ (by assumption) ?_
          rotate_left
          · (intro w hSw; (try dsimp only at hSw); go_simp; first | done | with_reducible rfl)
          try simp only [Act.put, List.setIfInBounds_toArray, List.set_cons_zero, List.set_cons_succ]
          refine take_d (v := ?_) 16 45 rfl rfl (by kernel_rfl) (by kernel_rfl) (by kernel_rfl) (fun _ _ _ h => h) (by kernel_rfl) ?_ (by assumption) ?_
          rotate_left
          · (intro w hSw; (try dsimp only at hSw); go_simp; first | done | with_reducible rfl)
          try simp only [Act.put, List.setIfInBounds_toArray, List.set_cons_zero, List.set_cons_succ]
          refine take_d (v := ?_) 17 46 rfl rfl (by kernel_rfl) (by kernel_rfl) (by kernel_rfl) (fun _ _ _ h => h) (by kernel_rfl) ?_ (by assumption) ?_
          rotate_left
          · (intro w hSw; (try dsimp only at hSw); go_simp; first | done | with_reducible rfl)
          try simp only [Act.put, List.setIfInBounds_toArray, List.set_cons_zero, List.set_cons_succ]
          refine take_d (v := ?_) 18 47 rfl rfl (by kernel_rfl) (by kernel_rfl) (by kernel_rfl) (fun _ _ _ h => h) (by kernel_rfl) ?_ (by assumption) ?_
          rotate_left
          · (intro w hSw; (try dsimp only at hSw); go_simp; first | done | with_reducible rfl)
          try simp only [Act.put, List.setIfInBounds_toArray, List.set_cons_zero, List.set_cons_succ]
          refine wpAnyH_ready (rs := [19]) (by kernel_rfl) (by simp) ?_
          refine AllReadyH.cons rfl (fun K hK => ?_) AllReadyH.nil
          go_simp
          (refine (covers_to rel25 Cb ⟨x0, x1⟩ HB2.out).mono ?_; rintro e wd ⟨rfl, bd⟩; have cd := cb.trans (bd.mono (hz cb)); have Cd := Cb.below bd; have sd := hcell _ cd i hil)
          go_wp2_with fail
          refine hK.out _ _ ⟨(by have := sd.1; rw [← HX.out] at this; exact this), (by have := sd.2; rw [← HX.out] at this; exact this)⟩ (fun hHeld => ?_)
          clear hK K
          try simp only [Act.put, List.setIfInBounds_toArray, List.set_cons_zero, List.set_cons_succ]
          refine take_d (v := ?_) 20 49 rfl rfl (by kernel_rfl) (by kernel_rfl) (by kernel_rfl) (fun _ _ _ h => h) (by kernel_rfl) ?_ (by assumption) ?_
          rotate_left
          · (intro w hSw; (try dsimp only at hSw); go_simp; first | done | with_reducible rfl)
          try simp only [Act.put, List.setIfInBounds_toArray, List.set_cons_zero, List.set_cons_succ]
          refine take_d (v := ?_) 21 50 rfl rfl (by kernel_rfl) (by kernel_rfl) (by kernel_rfl) (fun _ _ _ h => h) (by kernel_rfl) ?_ (by assumption) ?_
          rotate_left
          · (intro w hSw; (try dsimp only at hSw); go_simp; first | done | with_reducible rfl)
          try simp only [Act.put, List.setIfInBounds_toArray, List.set_cons_zero, List.set_cons_succ]
          refine wpAnyH_done (by kernel_rfl) ?_ _
          go_wp2_with fail
          go_meet
          exact ⟨rfl, vb, Cd, cd⟩
        | false =>
          have HB0 := Lib.hid hb0
          have HB1 : Hid ((!(L.any (fun y => bel 0 y ⟨x0, x1⟩))) = true) := Lib.hid (by rw [hb0]; rfl)
          clear hb0
          refine wp_region_held_drew (S := fun w' => w'.cell? ⟨gl, ol + i * 2, none⟩ = some (.int .i64 x0) ∧ w'.cell? ⟨gl, ol + i * 2 + 1, none⟩ = some (.int .i64 x1)) (by kernel_rfl) ⟨e0, e1⟩ (fun hHeld => ?_)
          refine take_d (v := ?_) 0 29 rfl rfl (by kernel_rfl) (by kernel_rfl) (by kernel_rfl) (fun _ _ _ h => h) (by kernel_rfl) ?_ (by assumption) ?_
          rotate_left
          · (intro w hSw; (try dsimp only at hSw); go_simp; first | done | with_reducible rfl)
          try simp only [Act.put, List.setIfInBounds_toArray, List.set_cons_zero, List.set_cons_succ]
          refine take_d (v := ?_) 1 30 rfl rfl (by kernel_rfl) (by kernel_rfl) (by kernel_rfl) (fun _ _ _ h => h) (by kernel_rfl) ?_ (by assumption) ?_
          rotate_left
          · (intro w hSw; (try dsimp only at hSw); go_simp; first | done | with_reducible rfl)
          try simp only [Act.put, List.setIfInBounds_toArray, List.set_cons_zero, List.set_cons_succ]
          refine take_d (v := ?_) 2 31 rfl rfl (by kernel_rfl) (by kernel_rfl) (by kernel_rfl) (fun _ _ _ h => h) (by kernel_rfl) ?_ (by assumption) ?_
          rotate_left
          · (intro w hSw; (try dsimp only at hSw); go_simp; first | done | with_reducible rfl)
          try simp only [Act.put, List.setIfInBounds_toArray, List.set_cons_zero, List.set_cons_succ]
          refine take_d (v := ?_) 3 32 rfl rfl (by kernel_rfl) (by kernel_rfl) (by kernel_rfl) (fun _ _ _ h => h) (by kernel_rfl) ?_ (by assumption) ?_
          rotate_left
          · (intro w hSw; (try dsimp only at hSw); go_simp; first | done | with_reducible rfl)
          try simp only [Act.put, List.setIfInBounds_toArray, List.set_cons_zero, List.set_cons_succ]
          refine take_d (v := ?_) 4 33 rfl rfl (by kernel_rfl) (by kernel_rfl) (by kernel_rfl) (fun _ _ _ h => h) (by kernel_rfl) ?_ (by assumption) ?_
          rotate_left
          · (intro w hSw; (try dsimp only at hSw); go_simp; first | done | with_reducible rfl)
          try simp only [Act.put, List.setIfInBounds_toArray, List.set_cons_zero, List.set_cons_succ]
          refine take_d (v := ?_) 6 35 rfl rfl (by kernel_rfl) (by kernel_rfl) (by kernel_rfl) (fun _ _ _ h => h) (by kernel_rfl) ?_ (by assumption) ?_
          rotate_left
          · (intro w hSw; (try dsimp only at hSw); go_simp; first | done | with_reducible rfl)
          try simp only [Act.put, List.setIfInBounds_toArray, List.set_cons_zero, List.set_cons_succ]
          refine take_d (v := ?_) 7 36 rfl rfl (by kernel_rfl) (by kernel_rfl) (by kernel_rfl) (fun _ _ _ h => h) (by kernel_rfl) ?_ (by assumption) ?_
          rotate_left
          · (intro w hSw; (try dsimp only at hSw); go_simp; first | done | with_reducible rfl)
          try simp only [Act.put, List.setIfInBounds_toArray, List.set_cons_zero, List.set_cons_succ]
          refine take_d (v := ?_) 8 37 rfl rfl (by kernel_rfl) (by kernel_rfl) (by kernel_rfl) (fun _ _ _ h => h) (by kernel_rfl) ?_ (by assumption) ?_
          rotate_left
          · (intro w hSw; (try dsimp only at hSw); go_simp; first | done | with_reducible rfl)
          try simp only [Act.put, List.setIfInBounds_toArray, List.set_cons_zero, List.set_cons_succ]
          refine take_d (v := ?_) 9 38 rfl rfl (by kernel_rfl) (by kernel_rfl) (by kernel_rfl) (fun _ _ _ h => h) (by kernel_rfl) ?_ (by assumption) ?_
          rotate_left
          · (intro w hSw; (try dsimp only at hSw); go_simp; first | done | with_reducible rfl)
          try simp only [Act.put, List.setIfInBounds_toArray, List.set_cons_zero, List.set_cons_succ]
          refine take_d (v := ?_) 10 39 rfl rfl (by kernel_rfl) (by kernel_rfl) (by kernel_rfl) (fun _ _ _ h => h) (by kernel_rfl) ?_ (by assumption) ?_
          rotate_left
          · (intro w hSw; (try dsimp only at hSw); go_simp; first | done | with_reducible rfl)
          try simp only [Act.put, List.setIfInBounds_toArray, List.set_cons_zero, List.set_cons_succ]
          refine wpAnyH_ready (rs := [5]) (by kernel_rfl) (by simp) ?_
          refine AllReadyH.cons rfl (fun K hK => ?_) AllReadyH.nil
          go_simp
          (refine (covers_to rel25 HC.out.drew ⟨x0, x1⟩ HB0.out).mono ?_; rintro e wa ⟨rfl, ba⟩; have ca := cr.drew.trans (ba.mono (hz cr.drew)); have Ca := HC.out.drew.below ba; have sa := hcell _ ca i hil)
          go_wp2_with fail
          refine hK.out _ _ ⟨(by have := sa.1; rw [← HX.out] at this; exact this), (by have := sa.2; rw [← HX.out] at this; exact this)⟩ (fun hHeld => ?_)
          clear hK K
          try simp only [Act.put, List.setIfInBounds_toArray, List.set_cons_zero, List.set_cons_succ]
          refine wpAnyH_ready (rs := [11]) (by kernel_rfl) (by simp) ?_
          refine AllReadyH.cons rfl (fun K hK => ?_) AllReadyH.nil
          go_simp
          (refine (insert_to rel25 rel26 Ca ⟨x0, x1⟩ (hz ca) hLb HB1.out rfl).mono ?_; rintro e wb ⟨rfl, vb, Cb, Fb, _⟩; have cb := ca.trans (fr_low Ca (hz ca) Fb); have sb := hcell _ cb i hil)
          go_wp2_with fail
          refine hK.out _ _ ⟨(by have := sb.1; rw [← HX.out] at this; exact this), (by have := sb.2; rw [← HX.out] at this; exact this)⟩ (fun hHeld => ?_)
          clear hK K
          try simp only [Act.put, List.setIfInBounds_toArray, List.set_cons_zero, List.set_cons_succ]
          refine take_d (v := ?_) 12 41 rfl rfl (by kernel_rfl) (by kernel_rfl) (by kernel_rfl) (fun _ _ _ h => h) (by kernel_rfl) ?_ (by assumption) ?_
          rotate_left
          · (intro w hSw; (try dsimp only at hSw); go_simp; first | done | with_reducible rfl)
          try simp only [Act.put, List.setIfInBounds_toArray, List.set_cons_zero, List.set_cons_succ]
          refine take_d (v := ?_) 13 42 rfl rfl (by kernel_rfl) (by kernel_rfl) (by kernel_rfl) (fun _ _ _ h => h) (by kernel_rfl) ?_ (by assumption) ?_
          rotate_left
          · (intro w hSw; (try dsimp only at hSw); go_simp; first | done | with_reducible rfl)
          try simp only [Act.put, List.setIfInBounds_toArray, List.set_cons_zero, List.set_cons_succ]
          refine take_d (v := ?_) 14 43 rfl rfl (by kernel_rfl) (by kernel_rfl) (by kernel_rfl) (fun _ _ _ h => h) (by kernel_rfl) ?_ (by assumption) ?_
          rotate_left
          · (intro w hSw; (try dsimp only at hSw); go_simp; first | done | with_reducible rfl)
          try simp only [Act.put, List.setIfInBounds_toArray, List.set_cons_zero, List.set_cons_succ]
          refine take_d (v := ?_) 15 44 rfl rfl (by kernel_rfl) (by kernel_rfl) (by kernel_rfl) (fun _ _ _ h => h) (by kernel_rfl) ?_ (by assumption) ?_
          rotate_left
          · (intro w hSw; (try dsimp only at hSw); go_simp; first | done | with_reducible rfl)
          try simp only [Act.put, List.setIfInBounds_toArray, List.set_cons_zero, List.set_cons_succ]
          refine take_d (v := ?_) 16 45 rfl rfl (by kernel_rfl) (by kernel_rfl) (by kernel_rfl) (fun _ _ _ h => h) (by kernel_rfl) ?_ (by assumption) ?_
          rotate_left
          · (intro w hSw; (try dsimp only at hSw); go_simp; first | done | with_reducible rfl)
          try simp only [Act.put, List.setIfInBounds_toArray, List.set_cons_zero, List.set_cons_succ]
          refine take_d (v := ?_) 17 46 rfl rfl (by kernel_rfl) (by kernel_rfl) (by kernel_rfl) (fun _ _ _ h => h) (by kernel_rfl) ?_ (by assumption) ?_
          rotate_left
          · (intro w hSw; (try dsimp only at hSw); go_simp; first | done | with_reducible rfl)
          try simp only [Act.put, List.setIfInBounds_toArray, List.set_cons_zero, List.set_cons_succ]
          refine take_d (v := ?_) 18 47 rfl rfl (by kernel_rfl) (by kernel_rfl) (by kernel_rfl) (fun _ _ _ h => h) (by kernel_rfl) ?_ (by assumption) ?_
          rotate_left
          · (intro w hSw; (try dsimp only at hSw); go_simp; first | done | with_reducible rfl)
          try simp only [Act.put, List.setIfInBounds_toArray, List.set_cons_zero, List.set_cons_succ]
          refine wpAnyH_ready (rs := [19]) (by kernel_rfl) (by simp) ?_
          refine AllReadyH.cons rfl (fun K hK => ?_) AllReadyH.nil
          go_simp
          (refine (covers_to rel25 Cb ⟨x0, x1⟩ HB2.out).mono ?_; rintro e wd ⟨rfl, bd⟩; have cd := cb.trans (bd.mono (hz cb)); have Cd := Cb.below bd; have sd := hcell _ cd i hil)
          go_wp2_with fail
          refine hK.out _ _ ⟨(by have := sd.1; rw [← HX.out] at this; exact this), (by have := sd.2; rw [← HX.out] at this; exact this)⟩ (fun hHeld => ?_)
          clear hK K
          try simp only [Act.put, List.setIfInBounds_toArray, List.set_cons_zero, List.set_cons_succ]
          refine take_d (v := ?_) 20 49 rfl rfl (by kernel_rfl) (by kernel_rfl) (by kernel_rfl) (fun _ _ _ h => h) (by kernel_rfl) ?_ (by assumption) ?_
          rotate_left
          · (intro w hSw; (try dsimp only at hSw); go_simp; first | done | with_reducible rfl)
          try simp only [Act.put, List.setIfInBounds_toArray, List.set_cons_zero, List.set_cons_succ]
          refine take_d (v := ?_) 21 50 rfl rfl (by kernel_rfl) (by kernel_rfl) (by kernel_rfl) (fun _ _ _ h => h) (by kernel_rfl) ?_ (by assumption) ?_
          rotate_left
          · (intro w hSw; (try dsimp only at hSw); go_simp; first | done | with_reducible rfl)
          try simp only [Act.put, List.setIfInBounds_toArray, List.set_cons_zero, List.set_cons_succ]
          refine wpAnyH_done (by kernel_rfl) ?_ _
          go_wp2_with fail
          go_meet
          exact ⟨rfl, vb, Cd, cd⟩
      case rest =>
      obtain ⟨rfl, v2, C2, c2⟩ := hcut
      clear e0 e1 cr HC HCR HL HK HB2
      obtain ⟨L2, hL2q⟩ : ∃ L2, L2 = insertL (bel 0) (fst 0) ⟨x0, x1⟩ L := ⟨_, rfl⟩
      rw [← hL2q] at C2 hL2 HL2
      obtain ⟨k2, hk2⟩ : ∃ k2, k2 = L2.length := ⟨_, rfl⟩
      have HK2 := Lib.hid hk2
      have C2 := Lib.hid C2
      have c2 := Lib.hid c2
      clear hL2q hk2
      go_wp2_with (go_at_call 19; refine (len_n2 C2.out HK2).mono ?_; rintro e w9 ⟨rfl, b9⟩)
      go_roundw
      case rel => exact ⟨i + 1, k2, v2, L2, rfl, by go_num, by omega, by omega, HK2, HL2, Lib.hid (C2.out.below b9), Lib.hid (stb c2.out b9)⟩
      case measure => simp [intOf]; omega
    · have hin : n = i := by omega
      have htk : l.take i = l := List.take_of_length_le (by rw [← HN.out]; omega)
      have hLq := HL.out
      rw [htk] at hLq
      have hG := good_join0 l
      rw [← hLq] at hG
      have HG := Lib.hid hG
      have HC := HC.out
      have cr := HCR.out
      clear hLq hG htk HL HCR hin
      have hLb : k * 16 ≤ 140737488355328 := by have := HK.out; omega
      go_upto_region 14 with (go_at_call 18; refine (list_n HC HK hLb).mono ?_; rintro e w11 ⟨a11, k11, rfl, o11, hk11, b11⟩)
      have c11 := stb cr b11
      have H11 := HC.below b11
      have hform : Hid (0 < k → ∃ g, a11 = some ⟨g, 0, none⟩ ∧ k ≤ k11 ∧ k11 ≤ maxLen ∧ g < w11.heap.size) := Lib.hid (fun h => by
        obtain ⟨g, k', hv, _, hg, hk, hm⟩ := Own.form o11 h
        injection hv with h1 _ h3
        subst h3
        exact ⟨g, h1, hk, hm, hg⟩)
      have HO := Lib.hid o11
      have c11 := Lib.hid c11
      have H11 := Lib.hid H11
      clear o11 hk11 HC cr b11
      have st11 : ∀ {W : World}, Below w11.heap.size w11 W → Below B w W := fun b => stb c11.out b
      go_wp2_with fail
      go_loopw [9] (fun s9 wr => ∃ (i : Nat), s9 = .int .i64 i ∧ i ≤ k ∧ Hid (Below w11.heap.size w11 wr)) (fun s9 _ => k - (intOf s9).toNat)
      case atStart => exact ⟨0, rfl, by omega, Lib.hid (Below.refl _ _)⟩
      case round =>
        obtain ⟨i, rfl, hi, HB⟩ := hrel
        by_cases hig : i < k
        · obtain ⟨gq, rfl, hkk, hkm, hgq⟩ := hform.out (by omega)
          unfold maxLen at hkm
          have hiL : i < L.length := by rw [← HK.out]; exact hig
          obtain ⟨y, hy⟩ : ∃ y, y = L[i] := ⟨_, rfl⟩
          have HY := Lib.hid hy
          have hcy : Hid (∀ W, Below w11.heap.size w11 W → W.cell? ⟨gq, i * 2, none⟩ = some (.int .i64 y.f0) ∧ W.cell? ⟨gq, i * 2 + 1, none⟩ = some (.int .i64 y.f1)) := Lib.hid (fun W hW => by
            rw [HY.out]; exact Own.at_ (own_below HO.out hW) i hiL)
          have hyl : Hid (l.any (fun x => eqB x y) = true) := Lib.hid (by
            have := ((HG.out.mem y).1 (by rw [HY.out]; exact List.getElem_mem hiL)).1
            exact List.any_eq_true.2 ⟨y, this, (eqB_iff y y).2 rfl⟩)
          clear hy
          obtain ⟨y0, y1⟩ := y
          simp only at hcy
          go_upto_region 18 with fail
          go_wp2_with fail
          go_loopw [10, 11] (fun s10 s11 wr => ∃ (j : Nat) (inn : Bool), s10 = .bool inn ∧ s11 = .int .i64 j ∧ j ≤ n ∧ Hid (inn = (l.take j).any (fun x => eqB x ⟨y0, y1⟩)) ∧ Hid (Below w11.heap.size w11 wr)) (fun _ s11 _ => n - (intOf s11).toNat)
          case atStart => exact ⟨0, false, rfl, rfl, by omega, Lib.hid (by simp), HB⟩
          case round =>
            clear HB
            obtain ⟨j, inn, rfl, rfl, hj, HI, HB⟩ := hrel
            by_cases hjn : j < n
            · obtain ⟨gl, ol, rfl, hgl, hcell⟩ := hpl.out (by omega)
              have hjl : j < l.length := by rw [← HN.out]; exact hjn
              obtain ⟨e0, e1⟩ := hcell _ (st11 HB.out) j hjl
              obtain ⟨e2, e3⟩ := hcy.out _ HB.out
              have htk : l.take (j + 1) = l.take j ++ [l[j]] := List.take_succ_eq_append_getElem hjl
              obtain ⟨x, hx⟩ : ∃ x, x = l[j] := ⟨_, rfl⟩
              rw [← hx] at e0 e1 htk
              obtain ⟨x0, x1⟩ := x
              have HT := Lib.hid htk
              simp only at e0 e1
              clear hx htk hcell
              go_upto_region 21 with fail
              cases inn with
              | true =>
                have HI2 : Hid (true = (l.take (j + 1)).any (fun x => eqB x ⟨y0, y1⟩)) := Lib.hid (by rw [HT.out, List.any_append, ← HI.out]; simp)
                refine wp_region_held_drew (S := fun w' => w'.cell? ⟨gl, ol + j * 2, none⟩ = some (.int .i64 x0) ∧ w'.cell? ⟨gl, ol + j * 2 + 1, none⟩ = some (.int .i64 x1) ∧ w'.cell? ⟨gq, i * 2, none⟩ = some (.int .i64 y0) ∧ w'.cell? ⟨gq, i * 2 + 1, none⟩ = some (.int .i64 y1)) (by kernel_rfl) ⟨e0, e1, e2, e3⟩ (fun hHeld => ?_)
                refine take_d (v := ?_) 0 71 rfl rfl (by kernel_rfl) (by kernel_rfl) (by kernel_rfl) (fun _ _ _ h => h) (by kernel_rfl) ?_ (by assumption) ?_
                rotate_left
                · (intro w hSw; (try dsimp only at hSw); go_simp; first | done | with_reducible rfl)
                try simp only [Act.put, List.setIfInBounds_toArray, List.set_cons_zero, List.set_cons_succ]
                refine take_d (v := ?_) 1 72 rfl rfl (by kernel_rfl) (by kernel_rfl) (by kernel_rfl) (fun _ _ _ h => h) (by kernel_rfl) ?_ (by assumption) ?_
                rotate_left
                · (intro w hSw; (try dsimp only at hSw); go_simp; first | done | with_reducible rfl)
                try simp only [Act.put, List.setIfInBounds_toArray, List.set_cons_zero, List.set_cons_succ]
                refine off_d 2 73 rfl rfl (by kernel_rfl) (by kernel_rfl) (by kernel_rfl) (fun _ _ _ h => h) (by kernel_rfl) (by assumption) ?_
                try simp only [Act.put, List.setIfInBounds_toArray, List.set_cons_zero, List.set_cons_succ]
                refine off_d 3 74 rfl rfl (by kernel_rfl) (by kernel_rfl) (by kernel_rfl) (fun _ _ _ h => h) (by kernel_rfl) (by assumption) ?_
                try simp only [Act.put, List.setIfInBounds_toArray, List.set_cons_zero, List.set_cons_succ]
                refine off_d 4 75 rfl rfl (by kernel_rfl) (by kernel_rfl) (by kernel_rfl) (fun _ _ _ h => h) (by kernel_rfl) (by assumption) ?_
                try simp only [Act.put, List.setIfInBounds_toArray, List.set_cons_zero, List.set_cons_succ]
                refine off_d 5 76 rfl rfl (by kernel_rfl) (by kernel_rfl) (by kernel_rfl) (fun _ _ _ h => h) (by kernel_rfl) (by assumption) ?_
                try simp only [Act.put, List.setIfInBounds_toArray, List.set_cons_zero, List.set_cons_succ]
                refine off_d 6 77 rfl rfl (by kernel_rfl) (by kernel_rfl) (by kernel_rfl) (fun _ _ _ h => h) (by kernel_rfl) (by assumption) ?_
                try simp only [Act.put, List.setIfInBounds_toArray, List.set_cons_zero, List.set_cons_succ]
                refine off_d 7 78 rfl rfl (by kernel_rfl) (by kernel_rfl) (by kernel_rfl) (fun _ _ _ h => h) (by kernel_rfl) (by assumption) ?_
                try simp only [Act.put, List.setIfInBounds_toArray, List.set_cons_zero, List.set_cons_succ]
                refine off_d 8 79 rfl rfl (by kernel_rfl) (by kernel_rfl) (by kernel_rfl) (fun _ _ _ h => h) (by kernel_rfl) (by assumption) ?_
                try simp only [Act.put, List.setIfInBounds_toArray, List.set_cons_zero, List.set_cons_succ]
                refine off_d 9 80 rfl rfl (by kernel_rfl) (by kernel_rfl) (by kernel_rfl) (fun _ _ _ h => h) (by kernel_rfl) (by assumption) ?_
                try simp only [Act.put, List.setIfInBounds_toArray, List.set_cons_zero, List.set_cons_succ]
                refine off_d 10 81 rfl rfl (by kernel_rfl) (by kernel_rfl) (by kernel_rfl) (fun _ _ _ h => h) (by kernel_rfl) (by assumption) ?_
                try simp only [Act.put, List.setIfInBounds_toArray, List.set_cons_zero, List.set_cons_succ]
                refine take_d (v := ?_) 11 82 rfl rfl (by kernel_rfl) (by kernel_rfl) (by kernel_rfl) (fun _ _ _ h => h) (by kernel_rfl) ?_ (by assumption) ?_
                rotate_left
                · (intro w hSw; (try dsimp only at hSw); go_simp; first | done | with_reducible rfl)
                try simp only [Act.put, List.setIfInBounds_toArray, List.set_cons_zero, List.set_cons_succ]
                refine take_d (v := ?_) 12 10 rfl rfl (by kernel_rfl) (by kernel_rfl) (by kernel_rfl) (fun _ _ _ h => h) (by kernel_rfl) ?_ (by assumption) ?_
                rotate_left
                · (intro w hSw; (try dsimp only at hSw); go_simp; first | done | with_reducible rfl)
                try simp only [Act.put, List.setIfInBounds_toArray, List.set_cons_zero, List.set_cons_succ]
                refine wpAnyH_done (by kernel_rfl) ?_ _
                go_wp2_with fail
                go_roundw
                case rel => exact ⟨j + 1, true, rfl, by go_num, by omega, HI2, Lib.hid (HB.out.trans ((Below.refl wr.heap.size wr).drew.mono HB.out.size))⟩
                case measure => simp [intOf]; omega
              | false =>
                have HI2 : Hid (eqB ⟨x0, x1⟩ ⟨y0, y1⟩ = (l.take (j + 1)).any (fun x => eqB x ⟨y0, y1⟩)) := Lib.hid (by rw [HT.out, List.any_append, ← HI.out]; simp)
                refine wp_region_held_drew (S := fun w' => w'.cell? ⟨gl, ol + j * 2, none⟩ = some (.int .i64 x0) ∧ w'.cell? ⟨gl, ol + j * 2 + 1, none⟩ = some (.int .i64 x1) ∧ w'.cell? ⟨gq, i * 2, none⟩ = some (.int .i64 y0) ∧ w'.cell? ⟨gq, i * 2 + 1, none⟩ = some (.int .i64 y1)) (by kernel_rfl) ⟨e0, e1, e2, e3⟩ (fun hHeld => ?_)
                refine take_d (v := ?_) 0 71 rfl rfl (by kernel_rfl) (by kernel_rfl) (by kernel_rfl) (fun _ _ _ h => h) (by kernel_rfl) ?_ (by assumption) ?_
                rotate_left
                · (intro w hSw; (try dsimp only at hSw); go_simp; first | done | with_reducible rfl)
                try simp only [Act.put, List.setIfInBounds_toArray, List.set_cons_zero, List.set_cons_succ]
                refine take_d (v := ?_) 1 72 rfl rfl (by kernel_rfl) (by kernel_rfl) (by kernel_rfl) (fun _ _ _ h => h) (by kernel_rfl) ?_ (by assumption) ?_
                rotate_left
                · (intro w hSw; (try dsimp only at hSw); go_simp; first | done | with_reducible rfl)
                try simp only [Act.put, List.setIfInBounds_toArray, List.set_cons_zero, List.set_cons_succ]
                refine take_d (v := ?_) 2 73 rfl rfl (by kernel_rfl) (by kernel_rfl) (by kernel_rfl) (fun _ _ _ h => h) (by kernel_rfl) ?_ (by assumption) ?_
                rotate_left
                · (intro w hSw; (try dsimp only at hSw); go_simp; first | done | with_reducible rfl)
                try simp only [Act.put, List.setIfInBounds_toArray, List.set_cons_zero, List.set_cons_succ]
                refine take_d (v := ?_) 3 74 rfl rfl (by kernel_rfl) (by kernel_rfl) (by kernel_rfl) (fun _ _ _ h => h) (by kernel_rfl) ?_ (by assumption) ?_
                rotate_left
                · (intro w hSw; (try dsimp only at hSw); go_simp; first | done | with_reducible rfl)
                try simp only [Act.put, List.setIfInBounds_toArray, List.set_cons_zero, List.set_cons_succ]
                refine take_d (v := ?_) 4 75 rfl rfl (by kernel_rfl) (by kernel_rfl) (by kernel_rfl) (fun _ _ _ h => h) (by kernel_rfl) ?_ (by assumption) ?_
                rotate_left
                · (intro w hSw; (try dsimp only at hSw); go_simp; first | done | with_reducible rfl)
                try simp only [Act.put, List.setIfInBounds_toArray, List.set_cons_zero, List.set_cons_succ]
                refine take_d (v := ?_) 5 76 rfl rfl (by kernel_rfl) (by kernel_rfl) (by kernel_rfl) (fun _ _ _ h => h) (by kernel_rfl) ?_ (by assumption) ?_
                rotate_left
                · (intro w hSw; (try dsimp only at hSw); go_simp; first | done | with_reducible rfl)
                try simp only [Act.put, List.setIfInBounds_toArray, List.set_cons_zero, List.set_cons_succ]
                refine take_d (v := ?_) 6 77 rfl rfl (by kernel_rfl) (by kernel_rfl) (by kernel_rfl) (fun _ _ _ h => h) (by kernel_rfl) ?_ (by assumption) ?_
                rotate_left
                · (intro w hSw; (try dsimp only at hSw); go_simp; first | done | with_reducible rfl)
                try simp only [Act.put, List.setIfInBounds_toArray, List.set_cons_zero, List.set_cons_succ]
                refine take_d (v := ?_) 7 78 rfl rfl (by kernel_rfl) (by kernel_rfl) (by kernel_rfl) (fun _ _ _ h => h) (by kernel_rfl) ?_ (by assumption) ?_
                rotate_left
                · (intro w hSw; (try dsimp only at hSw); go_simp; first | done | with_reducible rfl)
                try simp only [Act.put, List.setIfInBounds_toArray, List.set_cons_zero, List.set_cons_succ]
                refine take_d (v := ?_) 8 79 rfl rfl (by kernel_rfl) (by kernel_rfl) (by kernel_rfl) (fun _ _ _ h => h) (by kernel_rfl) ?_ (by assumption) ?_
                rotate_left
                · (intro w hSw; (try dsimp only at hSw); go_simp; first | done | with_reducible rfl)
                try simp only [Act.put, List.setIfInBounds_toArray, List.set_cons_zero, List.set_cons_succ]
                refine take_d (v := ?_) 9 80 rfl rfl (by kernel_rfl) (by kernel_rfl) (by kernel_rfl) (fun _ _ _ h => h) (by kernel_rfl) ?_ (by assumption) ?_
                rotate_left
                · (intro w hSw; (try dsimp only at hSw); go_simp; first | done | with_reducible rfl)
                try simp only [Act.put, List.setIfInBounds_toArray, List.set_cons_zero, List.set_cons_succ]
                refine take_d (v := ?_) 10 81 rfl rfl (by kernel_rfl) (by kernel_rfl) (by kernel_rfl) (fun _ _ _ h => h) (by kernel_rfl) ?_ (by assumption) ?_
                rotate_left
                · (intro w hSw; (try dsimp only at hSw); go_simp; first | done | with_reducible rfl)
                try simp only [Act.put, List.setIfInBounds_toArray, List.set_cons_zero, List.set_cons_succ]
                refine take_d (v := ?_) 11 82 rfl rfl (by kernel_rfl) (by kernel_rfl) (by kernel_rfl) (fun _ _ _ h => h) (by kernel_rfl) ?_ (by assumption) ?_
                rotate_left
                · (intro w hSw; (try dsimp only at hSw); go_simp; first | done | with_reducible rfl)
                try simp only [Act.put, List.setIfInBounds_toArray, List.set_cons_zero, List.set_cons_succ]
                refine take_d (v := ?_) 12 10 rfl rfl (by kernel_rfl) (by kernel_rfl) (by kernel_rfl) (fun _ _ _ h => h) (by kernel_rfl) ?_ (by assumption) ?_
                rotate_left
                · (intro w hSw; (try dsimp only at hSw); go_simp; first | done | with_reducible rfl)
                try simp only [Act.put, List.setIfInBounds_toArray, List.set_cons_zero, List.set_cons_succ]
                refine wpAnyH_done (by kernel_rfl) ?_ _
                go_wp2_with fail
                go_roundw
                case rel => exact ⟨j + 1, eqB ⟨x0, x1⟩ ⟨y0, y1⟩, by simp [eqB], by go_num, by omega, HI2, Lib.hid (HB.out.trans ((Below.refl wr.heap.size wr).drew.mono HB.out.size))⟩
                case measure => simp [intOf]; omega
            · have hi1 : inn = true := by
                have hjq : j = n := by omega
                rw [HI.out, hjq, HN.out, List.take_length]
                exact hyl.out
              subst hi1
              clear HI hyl
              go_upto_region 22 with fail
              go_wp2_with fail
              go_loopw [12] (fun s12 wr => ∃ (j : Nat), s12 = .int .i64 j ∧ j ≤ k ∧ Hid (Below w11.heap.size w11 wr)) (fun s12 _ => k - (intOf s12).toNat)
              case atStart => exact ⟨0, rfl, by omega, HB⟩
              case round =>
                clear HB hjn hj
                obtain ⟨j, rfl, hj, HB⟩ := hrel
                obtain ⟨e2, e3⟩ := hcy.out _ HB.out
                have lq : gq < wr.heap.size := Nat.lt_of_lt_of_le hgq HB.out.size
                by_cases hjk : j < k
                · have hjL : j < L.length := by rw [← HK.out]; exact hjk
                  obtain ⟨e0, e1⟩ := Own.at_ (own_below HO.out HB.out) j hjL
                  obtain ⟨x, hx⟩ : ∃ x, x = L[j] := ⟨_, rfl⟩
                  rw [← hx] at e0 e1
                  have HX := Lib.hid hx
                  clear hx
                  obtain ⟨x0, x1⟩ := x
                  simp only at e0 e1
                  go_upto_region 25 with fail
                  go_cut [102] (fun s wx => s = .bool false ∧ Below wr.heap.size wr wx)
                  case first =>
                    by_cases hij : i = j
                    · subst hij
                      refine wp_region_held_drew (S := fun w' => True) (by kernel_rfl) trivial (fun hHeld => ?_)
                      refine take_d (v := ?_) 0 89 rfl rfl (by kernel_rfl) (by kernel_rfl) (by kernel_rfl) (fun _ _ _ h => h) (by kernel_rfl) ?_ (by assumption) ?_
                      rotate_left
                      · (intro w hSw; (try dsimp only at hSw); go_simp; first | done | with_reducible rfl)
                      try simp only [Act.put, List.setIfInBounds_toArray, List.set_cons_zero, List.set_cons_succ]
                      refine take_d (v := ?_) 1 90 rfl rfl (by kernel_rfl) (by kernel_rfl) (by kernel_rfl) (fun _ _ _ h => h) (by kernel_rfl) ?_ (by assumption) ?_
                      rotate_left
                      · (intro w hSw; (try dsimp only at hSw); go_simp; first | done | with_reducible rfl)
                      try simp only [Act.put, List.setIfInBounds_toArray, List.set_cons_zero, List.set_cons_succ]
                      refine take_d (v := ?_) 2 91 rfl rfl (by kernel_rfl) (by kernel_rfl) (by kernel_rfl) (fun _ _ _ h => h) (by kernel_rfl) ?_ (by assumption) ?_
                      rotate_left
                      · (intro w hSw; (try dsimp only at hSw); go_simp; first | done | with_reducible rfl)
                      try simp only [Act.put, List.setIfInBounds_toArray, List.set_cons_zero, List.set_cons_succ]
                      refine take_d (v := ?_) 3 92 rfl rfl (by kernel_rfl) (by kernel_rfl) (by kernel_rfl) (fun _ _ _ h => h) (by kernel_rfl) ?_ (by assumption) ?_
                      rotate_left
                      · (intro w hSw; (try dsimp only at hSw); go_simp; first | done | with_reducible rfl)
                      try simp only [Act.put, List.setIfInBounds_toArray, List.set_cons_zero, List.set_cons_succ]
                      refine off_d 4 93 rfl rfl (by kernel_rfl) (by kernel_rfl) (by kernel_rfl) (fun _ _ _ h => h) (by kernel_rfl) (by assumption) ?_
                      try simp only [Act.put, List.setIfInBounds_toArray, List.set_cons_zero, List.set_cons_succ]
                      refine off_d 5 94 rfl rfl (by kernel_rfl) (by kernel_rfl) (by kernel_rfl) (fun _ _ _ h => h) (by kernel_rfl) (by assumption) ?_
                      try simp only [Act.put, List.setIfInBounds_toArray, List.set_cons_zero, List.set_cons_succ]
                      refine off_d 6 95 rfl rfl (by kernel_rfl) (by kernel_rfl) (by kernel_rfl) (fun _ _ _ h => h) (by kernel_rfl) (by assumption) ?_
                      try simp only [Act.put, List.setIfInBounds_toArray, List.set_cons_zero, List.set_cons_succ]
                      refine off_d 7 96 rfl rfl (by kernel_rfl) (by kernel_rfl) (by kernel_rfl) (fun _ _ _ h => h) (by kernel_rfl) (by assumption) ?_
                      try simp only [Act.put, List.setIfInBounds_toArray, List.set_cons_zero, List.set_cons_succ]
                      refine off_d 8 97 rfl rfl (by kernel_rfl) (by kernel_rfl) (by kernel_rfl) (fun _ _ _ h => h) (by kernel_rfl) (by assumption) ?_
                      try simp only [Act.put, List.setIfInBounds_toArray, List.set_cons_zero, List.set_cons_succ]
                      refine off_d 9 98 rfl rfl (by kernel_rfl) (by kernel_rfl) (by kernel_rfl) (fun _ _ _ h => h) (by kernel_rfl) (by assumption) ?_
                      try simp only [Act.put, List.setIfInBounds_toArray, List.set_cons_zero, List.set_cons_succ]
                      refine off_d 10 99 rfl rfl (by kernel_rfl) (by kernel_rfl) (by kernel_rfl) (fun _ _ _ h => h) (by kernel_rfl) (by assumption) ?_
                      try simp only [Act.put, List.setIfInBounds_toArray, List.set_cons_zero, List.set_cons_succ]
                      refine off_d 11 100 rfl rfl (by kernel_rfl) (by kernel_rfl) (by kernel_rfl) (fun _ _ _ h => h) (by kernel_rfl) (by assumption) ?_
                      try simp only [Act.put, List.setIfInBounds_toArray, List.set_cons_zero, List.set_cons_succ]
                      refine off_d 12 101 rfl rfl (by kernel_rfl) (by kernel_rfl) (by kernel_rfl) (fun _ _ _ h => h) (by kernel_rfl) (by assumption) ?_
                      try simp only [Act.put, List.setIfInBounds_toArray, List.set_cons_zero, List.set_cons_succ]
                      refine take_d (v := ?_) 13 102 rfl rfl (by kernel_rfl) (by kernel_rfl) (by kernel_rfl) (fun _ _ _ h => h) (by kernel_rfl) ?_ (by assumption) ?_
                      rotate_left
                      · (intro w hSw; (try dsimp only at hSw); go_simp; first | done | with_reducible rfl)
                      try simp only [Act.put, List.setIfInBounds_toArray, List.set_cons_zero, List.set_cons_succ]
                      refine wpAnyH_done (by kernel_rfl) ?_ _
                      go_wp2_with fail
                      go_meet
                      exact ⟨rfl, (Below.refl _ _).drew⟩
                    · have hno : bel 0 ⟨x0, x1⟩ ⟨y0, y1⟩ = false := by
                        cases hbl : bel 0 ⟨x0, x1⟩ ⟨y0, y1⟩ with
                        | false => rfl
                        | true =>
                          exfalso
                          rw [HX.out, HY.out] at hbl
                          have hmx := ((HG.out.mem L[j]).1 (List.getElem_mem hjL)).1
                          have hey := ((HG.out.mem L[i]).1 (List.getElem_mem hiL)).2 _ hmx hbl
                          rcases Nat.lt_or_gt_of_ne hij with h | h
                          · have := List.pairwise_iff_getElem.1 HG.out.sorted i j hiL hjL h
                            rw [hey] at this
                            exact fst0_irrefl _ this
                          · have := List.pairwise_iff_getElem.1 HG.out.sorted j i hjL hiL h
                            rw [hey] at this
                            exact fst0_irrefl _ this
                      have t1 : ((i : Int) != (j : Int)) = true := by simp; omega
                      refine wp_region_held_drew (S := fun w' => w'.cell? ⟨gq, j * 2, none⟩ = some (.int .i64 x0) ∧ w'.cell? ⟨gq, j * 2 + 1, none⟩ = some (.int .i64 x1) ∧ w'.cell? ⟨gq, i * 2, none⟩ = some (.int .i64 y0) ∧ w'.cell? ⟨gq, i * 2 + 1, none⟩ = some (.int .i64 y1)) (by kernel_rfl) ⟨e0, e1, e2, e3⟩ (fun hHeld => ?_)
                      refine take_d (v := ?_) 0 89 rfl rfl (by kernel_rfl) (by kernel_rfl) (by kernel_rfl) (fun _ _ _ h => h) (by kernel_rfl) ?_ (by assumption) ?_
                      rotate_left
                      · (intro w hSw; (try dsimp only at hSw); go_simp; first | done | with_reducible rfl)
                      try simp only [Act.put, List.setIfInBounds_toArray, List.set_cons_zero, List.set_cons_succ]
                      refine take_d (v := ?_) 1 90 rfl rfl (by kernel_rfl) (by kernel_rfl) (by kernel_rfl) (fun _ _ _ h => h) (by kernel_rfl) ?_ (by assumption) ?_
                      rotate_left
                      · (intro w hSw; (try dsimp only at hSw); go_simp; first | done | with_reducible rfl)
                      try simp only [Act.put, List.setIfInBounds_toArray, List.set_cons_zero, List.set_cons_succ]
                      refine take_d (v := ?_) 2 91 rfl rfl (by kernel_rfl) (by kernel_rfl) (by kernel_rfl) (fun _ _ _ h => h) (by kernel_rfl) ?_ (by assumption) ?_
                      rotate_left
                      · (intro w hSw; (try dsimp only at hSw); go_simp; first | done | with_reducible rfl)
                      try simp only [Act.put, List.setIfInBounds_toArray, List.set_cons_zero, List.set_cons_succ]
                      refine take_d (v := ?_) 3 92 rfl rfl (by kernel_rfl) (by kernel_rfl) (by kernel_rfl) (fun _ _ _ h => h) (by kernel_rfl) ?_ (by assumption) ?_
                      rotate_left
                      · (intro w hSw; (try dsimp only at hSw); go_simp; first | done | with_reducible rfl)
                      try simp only [Act.put, List.setIfInBounds_toArray, List.set_cons_zero, List.set_cons_succ]
                      refine take_d (v := ?_) 4 93 rfl rfl (by kernel_rfl) (by kernel_rfl) (by kernel_rfl) (fun _ _ _ h => h) (by kernel_rfl) ?_ (by assumption) ?_
                      rotate_left
                      · (intro w hSw; (try dsimp only at hSw); go_simp; first | done | with_reducible rfl)
                      try simp only [Act.put, List.setIfInBounds_toArray, List.set_cons_zero, List.set_cons_succ]
                      refine take_d (v := ?_) 5 94 rfl rfl (by kernel_rfl) (by kernel_rfl) (by kernel_rfl) (fun _ _ _ h => h) (by kernel_rfl) ?_ (by assumption) ?_
                      rotate_left
                      · (intro w hSw; (try dsimp only at hSw); go_simp; first | done | with_reducible rfl)
                      try simp only [Act.put, List.setIfInBounds_toArray, List.set_cons_zero, List.set_cons_succ]
                      refine take_d (v := ?_) 6 95 rfl rfl (by kernel_rfl) (by kernel_rfl) (by kernel_rfl) (fun _ _ _ h => h) (by kernel_rfl) ?_ (by assumption) ?_
                      rotate_left
                      · (intro w hSw; (try dsimp only at hSw); go_simp; first | done | with_reducible rfl)
                      try simp only [Act.put, List.setIfInBounds_toArray, List.set_cons_zero, List.set_cons_succ]
                      refine take_d (v := ?_) 7 96 rfl rfl (by kernel_rfl) (by kernel_rfl) (by kernel_rfl) (fun _ _ _ h => h) (by kernel_rfl) ?_ (by assumption) ?_
                      rotate_left
                      · (intro w hSw; (try dsimp only at hSw); go_simp; first | done | with_reducible rfl)
                      try simp only [Act.put, List.setIfInBounds_toArray, List.set_cons_zero, List.set_cons_succ]
                      refine take_d (v := ?_) 8 97 rfl rfl (by kernel_rfl) (by kernel_rfl) (by kernel_rfl) (fun _ _ _ h => h) (by kernel_rfl) ?_ (by assumption) ?_
                      rotate_left
                      · (intro w hSw; (try dsimp only at hSw); go_simp; first | done | with_reducible rfl)
                      try simp only [Act.put, List.setIfInBounds_toArray, List.set_cons_zero, List.set_cons_succ]
                      refine take_d (v := ?_) 9 98 rfl rfl (by kernel_rfl) (by kernel_rfl) (by kernel_rfl) (fun _ _ _ h => h) (by kernel_rfl) ?_ (by assumption) ?_
                      rotate_left
                      · (intro w hSw; (try dsimp only at hSw); go_simp; first | done | with_reducible rfl)
                      try simp only [Act.put, List.setIfInBounds_toArray, List.set_cons_zero, List.set_cons_succ]
                      refine take_d (v := ?_) 10 99 rfl rfl (by kernel_rfl) (by kernel_rfl) (by kernel_rfl) (fun _ _ _ h => h) (by kernel_rfl) ?_ (by assumption) ?_
                      rotate_left
                      · (intro w hSw; (try dsimp only at hSw); go_simp; first | done | with_reducible rfl)
                      try simp only [Act.put, List.setIfInBounds_toArray, List.set_cons_zero, List.set_cons_succ]
                      refine take_d (v := ?_) 11 100 rfl rfl (by kernel_rfl) (by kernel_rfl) (by kernel_rfl) (fun _ _ _ h => h) (by kernel_rfl) ?_ (by assumption) ?_
                      rotate_left
                      · (intro w hSw; (try dsimp only at hSw); go_simp; first | done | with_reducible rfl)
                      try simp only [Act.put, List.setIfInBounds_toArray, List.set_cons_zero, List.set_cons_succ]
                      refine wpAnyH_ready (rs := [12]) (by kernel_rfl) (by simp) ?_
                      refine AllReadyH.cons rfl (fun K hK => ?_) AllReadyH.nil
                      go_simp
                      (refine (below0_to ⟨x0, x1⟩ ⟨y0, y1⟩ hno _).mono ?_; rintro e wa ⟨rfl, ba⟩; have ba : Below wr.heap.size wr wa := ⟨ba.os, ba.tape, ba.output, ba.size, ba.block⟩)
                      go_wp2_with fail
                      refine hK.out _ _ ⟨(ba.cell (p := ⟨gq, j * 2, none⟩) lq).trans e0, (ba.cell (p := ⟨gq, j * 2 + 1, none⟩) lq).trans e1, (ba.cell (p := ⟨gq, i * 2, none⟩) lq).trans e2, (ba.cell (p := ⟨gq, i * 2 + 1, none⟩) lq).trans e3⟩ (fun hHeld => ?_)
                      clear hK K
                      try simp only [Act.put, List.setIfInBounds_toArray, List.set_cons_zero, List.set_cons_succ]
                      refine take_d (v := ?_) 13 102 rfl rfl (by kernel_rfl) (by kernel_rfl) (by kernel_rfl) (fun _ _ _ h => h) (by kernel_rfl) ?_ (by assumption) ?_
                      rotate_left
                      · (intro w hSw; (try dsimp only at hSw); go_simp; first | done | with_reducible rfl)
                      try simp only [Act.put, List.setIfInBounds_toArray, List.set_cons_zero, List.set_cons_succ]
                      refine wpAnyH_done (by kernel_rfl) ?_ _
                      go_wp2_with fail
                      go_meet
                      exact ⟨rfl, ba⟩
                  case rest =>
                  obtain ⟨rfl, b9⟩ := hcut
                  clear e0 e1 e2 e3
                  go_wp2_with fail
                  go_roundw
                  case rel => exact ⟨j + 1, by go_num, by omega, Lib.hid (HB.out.trans (b9.mono HB.out.size))⟩
                  case measure => simp [intOf]; omega
                · go_upto_region 27 with fail
                  go_cut [121] (fun s wx => s = .bool false ∧ Below wr.heap.size wr wx)
                  case first =>
                    by_cases hi0q : i = 0
                    · subst hi0q
                      refine wp_region_held_drew (S := fun w' => True) (by kernel_rfl) trivial (fun hHeld => ?_)
                      refine take_d (v := ?_) 0 103 rfl rfl (by kernel_rfl) (by kernel_rfl) (by kernel_rfl) (fun _ _ _ h => h) (by kernel_rfl) ?_ (by assumption) ?_
                      rotate_left
                      · (intro w hSw; (try dsimp only at hSw); go_simp; first | done | with_reducible rfl)
                      try simp only [Act.put, List.setIfInBounds_toArray, List.set_cons_zero, List.set_cons_succ]
                      refine take_d (v := ?_) 1 104 rfl rfl (by kernel_rfl) (by kernel_rfl) (by kernel_rfl) (fun _ _ _ h => h) (by kernel_rfl) ?_ (by assumption) ?_
                      rotate_left
                      · (intro w hSw; (try dsimp only at hSw); go_simp; first | done | with_reducible rfl)
                      try simp only [Act.put, List.setIfInBounds_toArray, List.set_cons_zero, List.set_cons_succ]
                      refine take_d (v := ?_) 2 105 rfl rfl (by kernel_rfl) (by kernel_rfl) (by kernel_rfl) (fun _ _ _ h => h) (by kernel_rfl) ?_ (by assumption) ?_
                      rotate_left
                      · (intro w hSw; (try dsimp only at hSw); go_simp; first | done | with_reducible rfl)
                      try simp only [Act.put, List.setIfInBounds_toArray, List.set_cons_zero, List.set_cons_succ]
                      refine take_d (v := ?_) 3 106 rfl rfl (by kernel_rfl) (by kernel_rfl) (by kernel_rfl) (fun _ _ _ h => h) (by kernel_rfl) ?_ (by assumption) ?_
                      rotate_left
                      · (intro w hSw; (try dsimp only at hSw); go_simp; first | done | with_reducible rfl)
                      try simp only [Act.put, List.setIfInBounds_toArray, List.set_cons_zero, List.set_cons_succ]
                      refine take_d (v := ?_) 4 107 rfl rfl (by kernel_rfl) (by kernel_rfl) (by kernel_rfl) (fun _ _ _ h => h) (by kernel_rfl) ?_ (by assumption) ?_
                      rotate_left
                      · (intro w hSw; (try dsimp only at hSw); go_simp; first | done | with_reducible rfl)
                      try simp only [Act.put, List.setIfInBounds_toArray, List.set_cons_zero, List.set_cons_succ]
                      refine take_d (v := ?_) 5 108 rfl rfl (by kernel_rfl) (by kernel_rfl) (by kernel_rfl) (fun _ _ _ h => h) (by kernel_rfl) ?_ (by assumption) ?_
                      rotate_left
                      · (intro w hSw; (try dsimp only at hSw); go_simp; first | done | with_reducible rfl)
                      try simp only [Act.put, List.setIfInBounds_toArray, List.set_cons_zero, List.set_cons_succ]
                      refine off_d 6 109 rfl rfl (by kernel_rfl) (by kernel_rfl) (by kernel_rfl) (fun _ _ _ h => h) (by kernel_rfl) (by assumption) ?_
                      try simp only [Act.put, List.setIfInBounds_toArray, List.set_cons_zero, List.set_cons_succ]
                      refine off_d 7 110 rfl rfl (by kernel_rfl) (by kernel_rfl) (by kernel_rfl) (fun _ _ _ h => h) (by kernel_rfl) (by assumption) ?_
                      try simp only [Act.put, List.setIfInBounds_toArray, List.set_cons_zero, List.set_cons_succ]
                      refine off_d 8 111 rfl rfl (by kernel_rfl) (by kernel_rfl) (by kernel_rfl) (fun _ _ _ h => h) (by kernel_rfl) (by assumption) ?_
                      try simp only [Act.put, List.setIfInBounds_toArray, List.set_cons_zero, List.set_cons_succ]
                      refine off_d 9 112 rfl rfl (by kernel_rfl) (by kernel_rfl) (by kernel_rfl) (fun _ _ _ h => h) (by kernel_rfl) (by assumption) ?_
                      try simp only [Act.put, List.setIfInBounds_toArray, List.set_cons_zero, List.set_cons_succ]
                      refine off_d 10 113 rfl rfl (by kernel_rfl) (by kernel_rfl) (by kernel_rfl) (fun _ _ _ h => h) (by kernel_rfl) (by assumption) ?_
                      try simp only [Act.put, List.setIfInBounds_toArray, List.set_cons_zero, List.set_cons_succ]
                      refine off_d 11 114 rfl rfl (by kernel_rfl) (by kernel_rfl) (by kernel_rfl) (fun _ _ _ h => h) (by kernel_rfl) (by assumption) ?_
                      try simp only [Act.put, List.setIfInBounds_toArray, List.set_cons_zero, List.set_cons_succ]
                      refine off_d 12 115 rfl rfl (by kernel_rfl) (by kernel_rfl) (by kernel_rfl) (fun _ _ _ h => h) (by kernel_rfl) (by assumption) ?_
                      try simp only [Act.put, List.setIfInBounds_toArray, List.set_cons_zero, List.set_cons_succ]
                      refine off_d 13 116 rfl rfl (by kernel_rfl) (by kernel_rfl) (by kernel_rfl) (fun _ _ _ h => h) (by kernel_rfl) (by assumption) ?_
                      try simp only [Act.put, List.setIfInBounds_toArray, List.set_cons_zero, List.set_cons_succ]
                      refine off_d 14 117 rfl rfl (by kernel_rfl) (by kernel_rfl) (by kernel_rfl) (fun _ _ _ h => h) (by kernel_rfl) (by assumption) ?_
                      try simp only [Act.put, List.setIfInBounds_toArray, List.set_cons_zero, List.set_cons_succ]
                      refine off_d 15 118 rfl rfl (by kernel_rfl) (by kernel_rfl) (by kernel_rfl) (fun _ _ _ h => h) (by kernel_rfl) (by assumption) ?_
                      try simp only [Act.put, List.setIfInBounds_toArray, List.set_cons_zero, List.set_cons_succ]
                      refine off_d 16 119 rfl rfl (by kernel_rfl) (by kernel_rfl) (by kernel_rfl) (fun _ _ _ h => h) (by kernel_rfl) (by assumption) ?_
                      try simp only [Act.put, List.setIfInBounds_toArray, List.set_cons_zero, List.set_cons_succ]
                      refine take_d (v := ?_) 17 120 rfl rfl (by kernel_rfl) (by kernel_rfl) (by kernel_rfl) (fun _ _ _ h => h) (by kernel_rfl) ?_ (by assumption) ?_
                      rotate_left
                      · (intro w hSw; (try dsimp only at hSw); go_simp; first | done | with_reducible rfl)
                      try simp only [Act.put, List.setIfInBounds_toArray, List.set_cons_zero, List.set_cons_succ]
                      refine take_d (v := ?_) 18 121 rfl rfl (by kernel_rfl) (by kernel_rfl) (by kernel_rfl) (fun _ _ _ h => h) (by kernel_rfl) ?_ (by assumption) ?_
                      rotate_left
                      · (intro w hSw; (try dsimp only at hSw); go_simp; first | done | with_reducible rfl)
                      try simp only [Act.put, List.setIfInBounds_toArray, List.set_cons_zero, List.set_cons_succ]
                      refine wpAnyH_done (by kernel_rfl) ?_ _
                      go_wp2_with fail
                      go_meet
                      exact ⟨rfl, (Below.refl _ _).drew⟩
                    · have him : i - 1 < L.length := by omega
                      obtain ⟨e0, e1⟩ := Own.at_ (own_below HO.out HB.out) (i - 1) him
                      obtain ⟨x, hx⟩ : ∃ x, x = L[i - 1] := ⟨_, rfl⟩
                      rw [← hx] at e0 e1
                      have hyes : fst 0 x ⟨y0, y1⟩ = true := by
                        rw [hx, HY.out]
                        exact List.pairwise_iff_getElem.1 HG.out.sorted (i - 1) i him hiL (by omega)
                      clear hx
                      obtain ⟨x0, x1⟩ := x
                      simp only at e0 e1
                      have q0 : decide ((0 : Int) < (i : Int)) = true := by simp; omega
                      have q1 : IntKind.i64.wrap ((i : Int) - 1) = (i : Int) - 1 := IntWalk.i64_in _ ⟨by omega, by omega⟩
                      have q2 : (0 : Int) ≤ (i : Int) - 1 := by omega
                      have q3 : (i : Int) - 1 < (k : Int) := by omega
                      have q5 : (1 : Int) ≤ (i : Int) := by omega
                      have q6 : 0 < i := by omega
                      have q4 : ((i : Int) - 1).toNat = i - 1 := by omega
                      refine wp_region_held_drew (S := fun w' => w'.cell? ⟨gq, (i - 1) * 2, none⟩ = some (.int .i64 x0) ∧ w'.cell? ⟨gq, (i - 1) * 2 + 1, none⟩ = some (.int .i64 x1) ∧ w'.cell? ⟨gq, i * 2, none⟩ = some (.int .i64 y0) ∧ w'.cell? ⟨gq, i * 2 + 1, none⟩ = some (.int .i64 y1)) (by kernel_rfl) ⟨e0, e1, e2, e3⟩ (fun hHeld => ?_)
                      refine take_d (v := ?_) 0 103 rfl rfl (by kernel_rfl) (by kernel_rfl) (by kernel_rfl) (fun _ _ _ h => h) (by kernel_rfl) ?_ (by assumption) ?_
                      rotate_left
                      · (intro w hSw; (try dsimp only at hSw); go_simp; first | done | with_reducible rfl)
                      try simp only [Act.put, List.setIfInBounds_toArray, List.set_cons_zero, List.set_cons_succ]
                      refine take_d (v := ?_) 1 104 rfl rfl (by kernel_rfl) (by kernel_rfl) (by kernel_rfl) (fun _ _ _ h => h) (by kernel_rfl) ?_ (by assumption) ?_
                      rotate_left
                      · (intro w hSw; (try dsimp only at hSw); go_simp; first | done | with_reducible rfl)
                      try simp only [Act.put, List.setIfInBounds_toArray, List.set_cons_zero, List.set_cons_succ]
                      refine take_d (v := ?_) 2 105 rfl rfl (by kernel_rfl) (by kernel_rfl) (by kernel_rfl) (fun _ _ _ h => h) (by kernel_rfl) ?_ (by assumption) ?_
                      rotate_left
                      · (intro w hSw; (try dsimp only at hSw); go_simp; first | done | with_reducible rfl)
                      try simp only [Act.put, List.setIfInBounds_toArray, List.set_cons_zero, List.set_cons_succ]
                      refine take_d (v := ?_) 3 106 rfl rfl (by kernel_rfl) (by kernel_rfl) (by kernel_rfl) (fun _ _ _ h => h) (by kernel_rfl) ?_ (by assumption) ?_
                      rotate_left
                      · (intro w hSw; (try dsimp only at hSw); go_simp; first | done | with_reducible rfl)
                      try simp only [Act.put, List.setIfInBounds_toArray, List.set_cons_zero, List.set_cons_succ]
                      refine take_d (v := ?_) 4 107 rfl rfl (by kernel_rfl) (by kernel_rfl) (by kernel_rfl) (fun _ _ _ h => h) (by kernel_rfl) ?_ (by assumption) ?_
                      rotate_left
                      · (intro w hSw; (try dsimp only at hSw); go_simp; first | done | with_reducible rfl)
                      try simp only [Act.put, List.setIfInBounds_toArray, List.set_cons_zero, List.set_cons_succ]
                      refine take_d (v := ?_) 5 108 rfl rfl (by kernel_rfl) (by kernel_rfl) (by kernel_rfl) (fun _ _ _ h => h) (by kernel_rfl) ?_ (by assumption) ?_
                      rotate_left
                      · (intro w hSw; (try dsimp only at hSw); go_simp; first | done | with_reducible rfl)
                      try simp only [Act.put, List.setIfInBounds_toArray, List.set_cons_zero, List.set_cons_succ]
                      refine take_d (v := ?_) 6 109 rfl rfl (by kernel_rfl) (by kernel_rfl) (by kernel_rfl) (fun _ _ _ h => h) (by kernel_rfl) ?_ (by assumption) ?_
                      rotate_left
                      · (intro w hSw; (try dsimp only at hSw); go_simp; first | done | with_reducible rfl)
                      try simp only [Act.put, List.setIfInBounds_toArray, List.set_cons_zero, List.set_cons_succ]
                      refine take_d (v := ?_) 7 110 rfl rfl (by kernel_rfl) (by kernel_rfl) (by kernel_rfl) (fun _ _ _ h => h) (by kernel_rfl) ?_ (by assumption) ?_
                      rotate_left
                      · (intro w hSw; (try dsimp only at hSw); go_simp; first | done | with_reducible rfl)
                      try simp only [Act.put, List.setIfInBounds_toArray, List.set_cons_zero, List.set_cons_succ]
                      refine take_d (v := ?_) 8 111 rfl rfl (by kernel_rfl) (by kernel_rfl) (by kernel_rfl) (fun _ _ _ h => h) (by kernel_rfl) ?_ (by assumption) ?_
                      rotate_left
                      · (intro w hSw; (try dsimp only at hSw); go_simp; first | done | with_reducible rfl)
                      try simp only [Act.put, List.setIfInBounds_toArray, List.set_cons_zero, List.set_cons_succ]
                      refine take_d (v := ?_) 9 112 rfl rfl (by kernel_rfl) (by kernel_rfl) (by kernel_rfl) (fun _ _ _ h => h) (by kernel_rfl) ?_ (by assumption) ?_
                      rotate_left
                      · (intro w hSw; (try dsimp only at hSw); go_simp; first | done | with_reducible rfl)
                      try simp only [Act.put, List.setIfInBounds_toArray, List.set_cons_zero, List.set_cons_succ]
                      refine take_d (v := ?_) 10 113 rfl rfl (by kernel_rfl) (by kernel_rfl) (by kernel_rfl) (fun _ _ _ h => h) (by kernel_rfl) ?_ (by assumption) ?_
                      rotate_left
                      · (intro w hSw; (try dsimp only at hSw); go_simp; first | done | with_reducible rfl)
                      try simp only [Act.put, List.setIfInBounds_toArray, List.set_cons_zero, List.set_cons_succ]
                      refine take_d (v := ?_) 11 114 rfl rfl (by kernel_rfl) (by kernel_rfl) (by kernel_rfl) (fun _ _ _ h => h) (by kernel_rfl) ?_ (by assumption) ?_
                      rotate_left
                      · (intro w hSw; (try dsimp only at hSw); go_simp; first | done | with_reducible rfl)
                      try simp only [Act.put, List.setIfInBounds_toArray, List.set_cons_zero, List.set_cons_succ]
                      refine take_d (v := ?_) 12 115 rfl rfl (by kernel_rfl) (by kernel_rfl) (by kernel_rfl) (fun _ _ _ h => h) (by kernel_rfl) ?_ (by assumption) ?_
                      rotate_left
                      · (intro w hSw; (try dsimp only at hSw); go_simp; first | done | with_reducible rfl)
                      try simp only [Act.put, List.setIfInBounds_toArray, List.set_cons_zero, List.set_cons_succ]
                      refine take_d (v := ?_) 13 116 rfl rfl (by kernel_rfl) (by kernel_rfl) (by kernel_rfl) (fun _ _ _ h => h) (by kernel_rfl) ?_ (by assumption) ?_
                      rotate_left
                      · (intro w hSw; (try dsimp only at hSw); go_simp; first | done | with_reducible rfl)
                      try simp only [Act.put, List.setIfInBounds_toArray, List.set_cons_zero, List.set_cons_succ]
                      refine take_d (v := ?_) 14 117 rfl rfl (by kernel_rfl) (by kernel_rfl) (by kernel_rfl) (fun _ _ _ h => h) (by kernel_rfl) ?_ (by assumption) ?_
                      rotate_left
                      · (intro w hSw; (try dsimp only at hSw); go_simp; first | done | with_reducible rfl)
                      try simp only [Act.put, List.setIfInBounds_toArray, List.set_cons_zero, List.set_cons_succ]
                      refine wpAnyH_ready (rs := [15]) (by kernel_rfl) (by simp) ?_
                      refine AllReadyH.cons rfl (fun K hK => ?_) AllReadyH.nil
                      go_simp
                      (refine (first0_to ⟨x0, x1⟩ ⟨y0, y1⟩ hyes _).mono ?_; rintro e wa ⟨rfl, ba⟩; have ba : Below wr.heap.size wr wa := ⟨ba.os, ba.tape, ba.output, ba.size, ba.block⟩)
                      go_wp2_with fail
                      refine hK.out _ _ ⟨(ba.cell (p := ⟨gq, (i - 1) * 2, none⟩) lq).trans e0, (ba.cell (p := ⟨gq, (i - 1) * 2 + 1, none⟩) lq).trans e1, (ba.cell (p := ⟨gq, i * 2, none⟩) lq).trans e2, (ba.cell (p := ⟨gq, i * 2 + 1, none⟩) lq).trans e3⟩ (fun hHeld => ?_)
                      clear hK K
                      try simp only [Act.put, List.setIfInBounds_toArray, List.set_cons_zero, List.set_cons_succ]
                      refine take_d (v := ?_) 16 119 rfl rfl (by kernel_rfl) (by kernel_rfl) (by kernel_rfl) (fun _ _ _ h => h) (by kernel_rfl) ?_ (by assumption) ?_
                      rotate_left
                      · (intro w hSw; (try dsimp only at hSw); go_simp; first | done | with_reducible rfl)
                      try simp only [Act.put, List.setIfInBounds_toArray, List.set_cons_zero, List.set_cons_succ]
                      refine take_d (v := ?_) 17 120 rfl rfl (by kernel_rfl) (by kernel_rfl) (by kernel_rfl) (fun _ _ _ h => h) (by kernel_rfl) ?_ (by assumption) ?_
                      rotate_left
                      · (intro w hSw; (try dsimp only at hSw); go_simp; first | done | with_reducible rfl)
                      try simp only [Act.put, List.setIfInBounds_toArray, List.set_cons_zero, List.set_cons_succ]
                      refine take_d (v := ?_) 18 121 rfl rfl (by kernel_rfl) (by kernel_rfl) (by kernel_rfl) (fun _ _ _ h => h) (by kernel_rfl) ?_ (by assumption) ?_
                      rotate_left
                      · (intro w hSw; (try dsimp only at hSw); go_simp; first | done | with_reducible rfl)
                      try simp only [Act.put, List.setIfInBounds_toArray, List.set_cons_zero, List.set_cons_succ]
                      refine wpAnyH_done (by kernel_rfl) ?_ _
                      go_wp2_with fail
                      go_meet
                      exact ⟨rfl, ba⟩
                  case rest =>
                  obtain ⟨rfl, b9⟩ := hcut
                  clear e2 e3
                  go_wp2_with fail
                  have HB3 := Lib.hid (HB.out.trans (b9.mono HB.out.size))
                  refine ⟨?_, ?_⟩
                  · exact ⟨i + 1, by go_num, by omega, HB3⟩
                  · simp [intOf]; omega
        · go_wp2_with fail
          go_loopw [13] (fun s13 wr => ∃ (i : Nat), s13 = .int .i64 i ∧ i ≤ m ∧ Hid (Below w11.heap.size w11 wr)) (fun s13 _ => m - (intOf s13).toNat)
          case atStart => exact ⟨0, rfl, by omega, HB⟩
          case round =>
            clear HB hig
            obtain ⟨i, rfl, hi, HB⟩ := hrel
            by_cases him : i < m
            · obtain ⟨gm, om, rfl, hgm, hcm⟩ := hpm.out (by omega)
              have hit : i < t.length := by rw [← HM.out]; exact him
              obtain ⟨y, hy⟩ : ∃ y, y = t[i] := ⟨_, rfl⟩
              have hcy : Hid (∀ W, Below w11.heap.size w11 W → W.cell? ⟨gm, om + i * 2, none⟩ = some (.int .i64 y.f0) ∧ W.cell? ⟨gm, om + i * 2 + 1, none⟩ = some (.int .i64 y.f1)) := Lib.hid (fun W hW => by
                rw [hy]; exact hcm _ (st11 hW) i hit)
              clear hy hcm
              obtain ⟨y0, y1⟩ := y
              simp only at hcy
              go_upto_region 33 with fail
              go_wp2_with fail
              go_loopw [14, 15] (fun s14 s15 wr => ∃ (j : Nat) (ah : Bool), s14 = .bool ah ∧ s15 = .int .i64 j ∧ j ≤ n ∧ Hid (ah = (l.take j).any (fun x => bel 0 x ⟨y0, y1⟩)) ∧ Hid (Below w11.heap.size w11 wr)) (fun _ s15 _ => n - (intOf s15).toNat)
              case atStart => exact ⟨0, false, rfl, rfl, by omega, Lib.hid (by simp), HB⟩
              case round =>
                clear HB
                obtain ⟨j, ah, rfl, rfl, hj, HI, HB⟩ := hrel
                obtain ⟨e2, e3⟩ := hcy.out _ HB.out
                by_cases hjn : j < n
                · obtain ⟨gl, ol, rfl, hgl, hcell⟩ := hpl.out (by omega)
                  have hjl : j < l.length := by rw [← HN.out]; exact hjn
                  obtain ⟨e0, e1⟩ := hcell _ (st11 HB.out) j hjl
                  have ll : gl < wr.heap.size := Nat.lt_of_lt_of_le hgl (hz (st11 HB.out))
                  have lm : gm < wr.heap.size := Nat.lt_of_lt_of_le hgm (hz (st11 HB.out))
                  have htk : l.take (j + 1) = l.take j ++ [l[j]] := List.take_succ_eq_append_getElem hjl
                  obtain ⟨x, hx⟩ : ∃ x, x = l[j] := ⟨_, rfl⟩
                  rw [← hx] at e0 e1 htk
                  obtain ⟨x0, x1⟩ := x
                  have HT := Lib.hid htk
                  simp only at e0 e1
                  clear hx htk hcell
                  go_upto_region 36 with fail
                  cases ah with
                  | true =>
                    have HI2 : Hid (true = (l.take (j + 1)).any (fun x => bel 0 x ⟨y0, y1⟩)) := Lib.hid (by rw [HT.out, List.any_append, ← HI.out]; simp)
                    refine wp_region_held_drew (S := fun w' => w'.cell? ⟨gl, ol + j * 2, none⟩ = some (.int .i64 x0) ∧ w'.cell? ⟨gl, ol + j * 2 + 1, none⟩ = some (.int .i64 x1) ∧ w'.cell? ⟨gm, om + i * 2, none⟩ = some (.int .i64 y0) ∧ w'.cell? ⟨gm, om + i * 2 + 1, none⟩ = some (.int .i64 y1)) (by kernel_rfl) ⟨e0, e1, e2, e3⟩ (fun hHeld => ?_)
                    refine take_d (v := ?_) 0 134 rfl rfl (by kernel_rfl) (by kernel_rfl) (by kernel_rfl) (fun _ _ _ h => h) (by kernel_rfl) ?_ (by assumption) ?_
                    rotate_left
                    · (intro w hSw; (try dsimp only at hSw); go_simp; first | done | with_reducible rfl)
                    try simp only [Act.put, List.setIfInBounds_toArray, List.set_cons_zero, List.set_cons_succ]
                    refine take_d (v := ?_) 1 135 rfl rfl (by kernel_rfl) (by kernel_rfl) (by kernel_rfl) (fun _ _ _ h => h) (by kernel_rfl) ?_ (by assumption) ?_
                    rotate_left
                    · (intro w hSw; (try dsimp only at hSw); go_simp; first | done | with_reducible rfl)
                    try simp only [Act.put, List.setIfInBounds_toArray, List.set_cons_zero, List.set_cons_succ]
                    refine off_d 2 136 rfl rfl (by kernel_rfl) (by kernel_rfl) (by kernel_rfl) (fun _ _ _ h => h) (by kernel_rfl) (by assumption) ?_
                    try simp only [Act.put, List.setIfInBounds_toArray, List.set_cons_zero, List.set_cons_succ]
                    refine off_d 3 137 rfl rfl (by kernel_rfl) (by kernel_rfl) (by kernel_rfl) (fun _ _ _ h => h) (by kernel_rfl) (by assumption) ?_
                    try simp only [Act.put, List.setIfInBounds_toArray, List.set_cons_zero, List.set_cons_succ]
                    refine off_d 4 138 rfl rfl (by kernel_rfl) (by kernel_rfl) (by kernel_rfl) (fun _ _ _ h => h) (by kernel_rfl) (by assumption) ?_
                    try simp only [Act.put, List.setIfInBounds_toArray, List.set_cons_zero, List.set_cons_succ]
                    refine off_d 5 139 rfl rfl (by kernel_rfl) (by kernel_rfl) (by kernel_rfl) (fun _ _ _ h => h) (by kernel_rfl) (by assumption) ?_
                    try simp only [Act.put, List.setIfInBounds_toArray, List.set_cons_zero, List.set_cons_succ]
                    refine off_d 6 140 rfl rfl (by kernel_rfl) (by kernel_rfl) (by kernel_rfl) (fun _ _ _ h => h) (by kernel_rfl) (by assumption) ?_
                    try simp only [Act.put, List.setIfInBounds_toArray, List.set_cons_zero, List.set_cons_succ]
                    refine off_d 7 141 rfl rfl (by kernel_rfl) (by kernel_rfl) (by kernel_rfl) (fun _ _ _ h => h) (by kernel_rfl) (by assumption) ?_
                    try simp only [Act.put, List.setIfInBounds_toArray, List.set_cons_zero, List.set_cons_succ]
                    refine off_d 8 142 rfl rfl (by kernel_rfl) (by kernel_rfl) (by kernel_rfl) (fun _ _ _ h => h) (by kernel_rfl) (by assumption) ?_
                    try simp only [Act.put, List.setIfInBounds_toArray, List.set_cons_zero, List.set_cons_succ]
                    refine off_d 9 143 rfl rfl (by kernel_rfl) (by kernel_rfl) (by kernel_rfl) (fun _ _ _ h => h) (by kernel_rfl) (by assumption) ?_
                    try simp only [Act.put, List.setIfInBounds_toArray, List.set_cons_zero, List.set_cons_succ]
                    refine off_d 10 144 rfl rfl (by kernel_rfl) (by kernel_rfl) (by kernel_rfl) (fun _ _ _ h => h) (by kernel_rfl) (by assumption) ?_
                    try simp only [Act.put, List.setIfInBounds_toArray, List.set_cons_zero, List.set_cons_succ]
                    refine take_d (v := ?_) 11 145 rfl rfl (by kernel_rfl) (by kernel_rfl) (by kernel_rfl) (fun _ _ _ h => h) (by kernel_rfl) ?_ (by assumption) ?_
                    rotate_left
                    · (intro w hSw; (try dsimp only at hSw); go_simp; first | done | with_reducible rfl)
                    try simp only [Act.put, List.setIfInBounds_toArray, List.set_cons_zero, List.set_cons_succ]
                    refine take_d (v := ?_) 12 14 rfl rfl (by kernel_rfl) (by kernel_rfl) (by kernel_rfl) (fun _ _ _ h => h) (by kernel_rfl) ?_ (by assumption) ?_
                    rotate_left
                    · (intro w hSw; (try dsimp only at hSw); go_simp; first | done | with_reducible rfl)
                    try simp only [Act.put, List.setIfInBounds_toArray, List.set_cons_zero, List.set_cons_succ]
                    refine wpAnyH_done (by kernel_rfl) ?_ _
                    go_wp2_with fail
                    go_roundw
                    case rel => exact ⟨j + 1, true, rfl, by go_num, by omega, HI2, Lib.hid (HB.out.trans ((Below.refl wr.heap.size wr).drew.mono HB.out.size))⟩
                    case measure => simp [intOf]; omega
                  | false =>
                    have HI2 : Hid (bel 0 ⟨x0, x1⟩ ⟨y0, y1⟩ = (l.take (j + 1)).any (fun x => bel 0 x ⟨y0, y1⟩)) := Lib.hid (by rw [HT.out, List.any_append, ← HI.out]; simp)
                    refine wp_region_held_drew (S := fun w' => w'.cell? ⟨gl, ol + j * 2, none⟩ = some (.int .i64 x0) ∧ w'.cell? ⟨gl, ol + j * 2 + 1, none⟩ = some (.int .i64 x1) ∧ w'.cell? ⟨gm, om + i * 2, none⟩ = some (.int .i64 y0) ∧ w'.cell? ⟨gm, om + i * 2 + 1, none⟩ = some (.int .i64 y1)) (by kernel_rfl) ⟨e0, e1, e2, e3⟩ (fun hHeld => ?_)
                    refine take_d (v := ?_) 0 134 rfl rfl (by kernel_rfl) (by kernel_rfl) (by kernel_rfl) (fun _ _ _ h => h) (by kernel_rfl) ?_ (by assumption) ?_
                    rotate_left
                    · (intro w hSw; (try dsimp only at hSw); go_simp; first | done | with_reducible rfl)
                    try simp only [Act.put, List.setIfInBounds_toArray, List.set_cons_zero, List.set_cons_succ]
                    refine take_d (v := ?_) 1 135 rfl rfl (by kernel_rfl) (by kernel_rfl) (by kernel_rfl) (fun _ _ _ h => h) (by kernel_rfl) ?_ (by assumption) ?_
                    rotate_left
                    · (intro w hSw; (try dsimp only at hSw); go_simp; first | done | with_reducible rfl)
                    try simp only [Act.put, List.setIfInBounds_toArray, List.set_cons_zero, List.set_cons_succ]
                    refine take_d (v := ?_) 2 136 rfl rfl (by kernel_rfl) (by kernel_rfl) (by kernel_rfl) (fun _ _ _ h => h) (by kernel_rfl) ?_ (by assumption) ?_
                    rotate_left
                    · (intro w hSw; (try dsimp only at hSw); go_simp; first | done | with_reducible rfl)
                    try simp only [Act.put, List.setIfInBounds_toArray, List.set_cons_zero, List.set_cons_succ]
                    refine take_d (v := ?_) 3 137 rfl rfl (by kernel_rfl) (by kernel_rfl) (by kernel_rfl) (fun _ _ _ h => h) (by kernel_rfl) ?_ (by assumption) ?_
                    rotate_left
                    · (intro w hSw; (try dsimp only at hSw); go_simp; first | done | with_reducible rfl)
                    try simp only [Act.put, List.setIfInBounds_toArray, List.set_cons_zero, List.set_cons_succ]
                    refine take_d (v := ?_) 4 138 rfl rfl (by kernel_rfl) (by kernel_rfl) (by kernel_rfl) (fun _ _ _ h => h) (by kernel_rfl) ?_ (by assumption) ?_
                    rotate_left
                    · (intro w hSw; (try dsimp only at hSw); go_simp; first | done | with_reducible rfl)
                    try simp only [Act.put, List.setIfInBounds_toArray, List.set_cons_zero, List.set_cons_succ]
                    refine take_d (v := ?_) 5 139 rfl rfl (by kernel_rfl) (by kernel_rfl) (by kernel_rfl) (fun _ _ _ h => h) (by kernel_rfl) ?_ (by assumption) ?_
                    rotate_left
                    · (intro w hSw; (try dsimp only at hSw); go_simp; first | done | with_reducible rfl)
                    try simp only [Act.put, List.setIfInBounds_toArray, List.set_cons_zero, List.set_cons_succ]
                    refine take_d (v := ?_) 6 140 rfl rfl (by kernel_rfl) (by kernel_rfl) (by kernel_rfl) (fun _ _ _ h => h) (by kernel_rfl) ?_ (by assumption) ?_
                    rotate_left
                    · (intro w hSw; (try dsimp only at hSw); go_simp; first | done | with_reducible rfl)
                    try simp only [Act.put, List.setIfInBounds_toArray, List.set_cons_zero, List.set_cons_succ]
                    refine take_d (v := ?_) 7 141 rfl rfl (by kernel_rfl) (by kernel_rfl) (by kernel_rfl) (fun _ _ _ h => h) (by kernel_rfl) ?_ (by assumption) ?_
                    rotate_left
                    · (intro w hSw; (try dsimp only at hSw); go_simp; first | done | with_reducible rfl)
                    try simp only [Act.put, List.setIfInBounds_toArray, List.set_cons_zero, List.set_cons_succ]
                    refine take_d (v := ?_) 8 142 rfl rfl (by kernel_rfl) (by kernel_rfl) (by kernel_rfl) (fun _ _ _ h => h) (by kernel_rfl) ?_ (by assumption) ?_
                    rotate_left
                    · (intro w hSw; (try dsimp only at hSw); go_simp; first | done | with_reducible rfl)
                    try simp only [Act.put, List.setIfInBounds_toArray, List.set_cons_zero, List.set_cons_succ]
                    refine take_d (v := ?_) 9 143 rfl rfl (by kernel_rfl) (by kernel_rfl) (by kernel_rfl) (fun _ _ _ h => h) (by kernel_rfl) ?_ (by assumption) ?_
                    rotate_left
                    · (intro w hSw; (try dsimp only at hSw); go_simp; first | done | with_reducible rfl)
                    try simp only [Act.put, List.setIfInBounds_toArray, List.set_cons_zero, List.set_cons_succ]
                    refine wpAnyH_ready (rs := [10]) (by kernel_rfl) (by simp) ?_
                    refine AllReadyH.cons rfl (fun K hK => ?_) AllReadyH.nil
                    go_simp
                    (refine (below0_to ⟨x0, x1⟩ ⟨y0, y1⟩ rfl _).mono ?_; rintro e wa ⟨rfl, ba⟩; have ba : Below wr.heap.size wr wa := ⟨ba.os, ba.tape, ba.output, ba.size, ba.block⟩)
                    go_wp2_with fail
                    refine hK.out _ _ ⟨(ba.cell (p := ⟨gl, ol + j * 2, none⟩) ll).trans e0, (ba.cell (p := ⟨gl, ol + j * 2 + 1, none⟩) ll).trans e1, (ba.cell (p := ⟨gm, om + i * 2, none⟩) lm).trans e2, (ba.cell (p := ⟨gm, om + i * 2 + 1, none⟩) lm).trans e3⟩ (fun hHeld => ?_)
                    clear hK K
                    try simp only [Act.put, List.setIfInBounds_toArray, List.set_cons_zero, List.set_cons_succ]
                    refine take_d (v := ?_) 11 145 rfl rfl (by kernel_rfl) (by kernel_rfl) (by kernel_rfl) (fun _ _ _ h => h) (by kernel_rfl) ?_ (by assumption) ?_
                    rotate_left
                    · (intro w hSw; (try dsimp only at hSw); go_simp; first | done | with_reducible rfl)
                    try simp only [Act.put, List.setIfInBounds_toArray, List.set_cons_zero, List.set_cons_succ]
                    refine take_d (v := ?_) 12 14 rfl rfl (by kernel_rfl) (by kernel_rfl) (by kernel_rfl) (fun _ _ _ h => h) (by kernel_rfl) ?_ (by assumption) ?_
                    rotate_left
                    · (intro w hSw; (try dsimp only at hSw); go_simp; first | done | with_reducible rfl)
                    try simp only [Act.put, List.setIfInBounds_toArray, List.set_cons_zero, List.set_cons_succ]
                    refine wpAnyH_done (by kernel_rfl) ?_ _
                    go_wp2_with fail
                    go_roundw
                    case rel => exact ⟨j + 1, bel 0 ⟨x0, x1⟩ ⟨y0, y1⟩, rfl, by go_num, by omega, HI2, Lib.hid (HB.out.trans (ba.mono HB.out.size))⟩
                    case measure => simp [intOf]; omega
                · have hjq : j = n := by omega
                  have hah : L.any (fun y => bel 0 y ⟨y0, y1⟩) = ah := by
                    rw [HI.out, hjq, HN.out, List.take_length, Bool.eq_iff_iff, List.any_eq_true, List.any_eq_true]
                    constructor
                    · rintro ⟨y, hy, hyy⟩
                      exact ⟨y, ((HG.out.mem y).1 hy).1, hyy⟩
                    · rintro ⟨y, hy, hyy⟩
                      obtain ⟨z, hz1, hz2⟩ := HG.out.cover y hy
                      exact ⟨z, hz1, bel0_trans hz2 hyy⟩
                  have HAH := Lib.hid hah
                  have hC := Lib.hid (H11.out.below HB.out)
                  clear hah hjq HI
                  cases ah
                  all_goals
                    go_wp2_with (go_at_call 14; refine (covers_to rel25 hC.out ⟨y0, y1⟩ HAH.out).mono ?_; rintro e w15 ⟨rfl, b15⟩)
                    refine ⟨?_, ?_⟩
                    · exact ⟨i + 1, by go_num, by omega, Lib.hid (HB.out.trans (b15.mono HB.out.size))⟩
                    · simp [intOf]; omega
            · go_wp2_with fail
              go_ret
              exact ⟨rfl, st11 HB.out⟩
end CP
end Go.Proofs.Ythchppnfffllnaa
