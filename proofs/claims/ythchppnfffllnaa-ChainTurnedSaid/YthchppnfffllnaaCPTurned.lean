/- ChainTurned: the walk. -/
import Derived.Test.YthchppnfffllnaaCPMin
import Derived.Test.YthchppnfffllnaaCPCuts
set_option linter.unusedVariables false
set_option linter.unusedSimpArgs false
namespace Go.Proofs.Ythchppnfffllnaa
open Go.RowKit PChainScript
namespace CP
def sliceLen : Value → Nat
  | .slice _ n _ => n
  | _ => 0
theorem own_weaken {w : World} {base base' e size n : Nat} {v : Value} {xs : List Value} (h : w.ownsRow base e size v n xs) (hb : base' ≤ base) : w.ownsRow base' e size v n xs := by
  refine ⟨h.1, ?_⟩
  rcases h.2 with h | ⟨g, cap, cur, hv, hg, r⟩
  · exact .inl h
  · exact .inr ⟨g, cap, cur, hv, by omega, r⟩
theorem own_apart {w : World} {base e size n : Nat} {v u : Value} {xs : List Value} (h : w.ownsRow base e size v n xs) (hu : ∀ b, u.ownBlock = some b → b < base) : v.ownBlock = none ∨ v.ownBlock ≠ u.ownBlock := by
  by_cases e : v.ownBlock = u.ownBlock
  · left
    cases hv : v.ownBlock with
    | none => rfl
    | some b => have := (h.lt b hv).1; have := hu b (e ▸ hv); omega
  · exact .inr e
theorem own_take {B : Nat} {w : World} {g q k : Nat} {R : List S35} (ho : Own B w (.slice (some ⟨g, 0, none⟩) q k) q R) (i : Nat) (hi : i ≤ q) : Reads w w.heap.size 2 (some ⟨g, 0, none⟩) i (flat (R.take i)) := by
  have hr := Reads.of_own ho
  have hq := ho.len
  refine ⟨by rw [flat_length, List.length_take]; omega, fun h => ?_⟩
  obtain ⟨ad, e, hb, hc⟩ := hr.2 (by omega)
  refine ⟨ad, e, hb, fun j u hu => hc j u ?_⟩
  rw [flat_take] at hu
  have := (List.getElem?_eq_some_iff.1 hu).1
  rwa [List.getElem?_take_of_lt (by simp at this; omega)] at hu
theorem own_drop {B : Nat} {w : World} {g q k : Nat} {R : List S35} (ho : Own B w (.slice (some ⟨g, 0, none⟩) q k) q R) (i : Nat) (hi : i ≤ q) : Reads w w.heap.size 2 (some ⟨g, i * 2, none⟩) (q - i) (flat (R.drop i)) := by
  have hr := Reads.of_own ho
  have hq := ho.len
  refine ⟨by rw [flat_length, List.length_drop]; omega, fun h => ?_⟩
  obtain ⟨ad, e, hb, hc⟩ := hr.2 (by omega)
  injection e with e
  subst e
  refine ⟨_, rfl, hb, fun j u hu => ?_⟩
  have e1 : (⟨g, i * 2, none⟩ : Addr).add j = (⟨g, 0, none⟩ : Addr).add (i * 2 + j) := by unfold Addr.add; split <;> simp_all
  rw [e1]
  refine hc _ u ?_
  have e2 : flat R = flat (R.take i) ++ flat (R.drop i) := by rw [← flat_append, List.take_append_drop]
  have e3 : (flat (R.take i)).length = i * 2 := by rw [flat_length, List.length_take]; omega
  rw [e2, List.getElem?_append_right (by omega), e3, Nat.add_sub_cancel_left]
  exact hu
theorem list_take_drop {R : List S35} {i q : Nat} {x : S35} (hq : q = R.length) (hi : i < R.length) (hx : x = R[i]) : ∀ y, y ∈ R ↔ (y = x ∨ y ∈ R.take i ++ R.drop (i + 1)) := by
  intro y
  have e : R = R.take i ++ x :: R.drop (i + 1) := by rw [hx, ← List.drop_eq_getElem_cons hi, List.take_append_drop]
  constructor
  · intro h
    rw [e, List.mem_append, List.mem_cons] at h
    rw [List.mem_append]
    rcases h with h | h | h
    · exact .inr (.inl h)
    · exact .inl h
    · exact .inr (.inr h)
  · intro h
    rw [e, List.mem_append, List.mem_cons]
    rw [List.mem_append] at h
    rcases h with h | h | h
    · exact .inr (.inl h)
    · exact .inl h
    · exact .inr (.inr h)
theorem good_step {l R R' L L' : List S35} {x : S35} (hG : ∃ S, Good S L ∧ ∀ y, y ∈ l ↔ (S y ∨ y ∈ R)) (hR : ∀ y, y ∈ R ↔ (y = x ∨ y ∈ R')) (hS : ∀ S, Good S L → Good (fun y => S y ∨ y = x) L') : Hid (∃ S, Good S L' ∧ ∀ y, y ∈ l ↔ (S y ∨ y ∈ R')) := by
  obtain ⟨S, h1, h2⟩ := hG
  exact ⟨_, hS S h1, fun y => by rw [h2, hR, or_assoc]⟩
theorem insert_ex {fb ff : Nat} {r f : S35 → S35 → Bool} (hr : Rel fb r) (hf : Rel ff f) {B : Nat} {w : World} {hb : Nat} {v : Value} {l : List S35} (H : Chain B w hb fb ff v l) (x : S35) (hB : B ≤ w.heap.size) (hl : (l.length + 1) * 16 ≤ 140737488355328) :
    Calls Try.prog 11 #[.pointer (some ⟨hb, 0, none⟩), vt x] w fun e w' => ∃ b v', e = .returned (.bool b) ∧ Chain B w' hb fb ff v' (insertL r f x l) ∧ Fr w w' hb v.ownBlock ∧ (v'.ownBlock = v.ownBlock ∨ ∃ b, v'.ownBlock = some b ∧ w.heap.size ≤ b) := by
  refine (insert_c hr hf H x hB hl).mono ?_
  rintro e w' ⟨rfl, v', h⟩
  exact ⟨_, v', rfl, h⟩
theorem len_n {B : Nat} {w : World} {hb fb ff n : Nat} {v : Value} {l : List S35} (H : Chain B w hb fb ff v l) (hn : Hid (n = l.length)) :
    Calls Try.prog 19 #[.pointer (some ⟨hb, 0, none⟩)] w fun e w' => e = .returned (.int .i64 n) ∧ Below w.heap.size w w' := by
  obtain rfl := hn.out
  exact len_c H
theorem fr_own_none {w w' : World} {hd : Nat} {v : Value} (F : Fr w w' hd v.ownBlock) (h : v.ownBlock = none) : Fr w w' hd none := by rw [h] at F; exact F
set_option maxRecDepth 100000 in
set_option maxHeartbeats 4000000 in
theorem turned_c {w : World} {A A' : Option Addr} {n c np c' : Nat} {l : List S35} {ps : List Int} (hr : Reads w w.heap.size 2 A n (flat l)) (hn : n = l.length) (hl : (n + 1) * 16 ≤ 140737488355328) (hnc : n ≤ c)
    (hp : Reads w w.heap.size 1 A' np (ps.map (fun p => Value.int .i64 p))) (hnp : np = ps.length) (hnpc : np ≤ c') (hpa : 0 < np → ∃ b off, A' = some ⟨b, off, none⟩) :
    Calls Try.prog 5 #[.slice A n c, .slice A' np c'] w fun e w' => e = .returned (.bool true) ∧ Below w.heap.size w w' := by
  obtain ⟨i0, hi0, hz0, hz1, hz2⟩ := info_parts info
  have f1 := flat_one l
  have HN := Lib.hid hn
  have HR := Lib.hid hr
  have HPS := Lib.hid hp
  have HNP := Lib.hid hnp
  obtain ⟨B, hB⟩ : ∃ B, B = w.heap.size := ⟨_, rfl⟩
  rw [← hB]
  have hB0 : B ≤ w.heap.size := by omega
  have c0 : Below B w w := Below.refl _ _
  have hrB : Hid (∀ W, Below B w W → Reads W W.heap.size 2 A n (flat l)) := Lib.hid (fun W hW => ((HR.out.more (by omega)).below hW).more (by have := hW.size; omega))
  have hpB : Hid (∀ W, Below B w W → Reads W W.heap.size 1 A' np (ps.map (fun p => Value.int .i64 p))) := Lib.hid (fun W hW => ((HPS.out.more (by omega)).below hW).more (by have := hW.size; omega))
  have hpl : Hid (0 < np → ∃ b off, A' = some ⟨b, off, none⟩ ∧ b < B ∧ ∀ i, (h : i < ps.length) → w.cell? ⟨b, off + i, none⟩ = some (.int .i64 ps[i])) := Lib.hid (fun h => by
    obtain ⟨b, off, rfl⟩ := hpa h
    obtain ⟨ad, e, hb, hc⟩ := HPS.out.2 h
    injection e with e
    subst e
    refine ⟨b, off, rfl, by rw [hB]; exact hb, fun i hi => ?_⟩
    have := hc i (.int .i64 ps[i]) (by simp [hi])
    have hadd : (⟨b, off, none⟩ : Addr).add i = ⟨b, off + i, none⟩ := by unfold Addr.add; split <;> simp_all
    rw [hadd] at this
    exact this)
  clear hn hr hp hnp hB HR hpa
  have hz : ∀ {W : World}, Below B w W → B ≤ W.heap.size := fun h => Nat.le_trans hB0 h.size
  have stb : ∀ {W W' : World}, Below B w W → Below W.heap.size W W' → Below B w W' := fun c b => c.trans (b.mono (hz c))
  go_enter Try.func5, Try.ntmps5
  go_upto_region 2 with (go_at_call 10; refine (made0 _ B hB0).mono ?_; rintro e w1 ⟨hb, rfl, hhb, H1, b1⟩)
  have c1 := stb c0 b1
  clear b1 c0 hhb
  go_upto_region 3 with (go_at_call 10; refine (made0 _ B (hz c1)).mono ?_; rintro e w2 ⟨hd, rfl, hhd, K2, b2⟩)
  have c2 := stb c1 b2
  have H2 := H1.below b2
  have hne : hb ≠ hd := by have := blk_lt H1.blk; omega
  clear b2 c1 hhd H1
  go_upto_region 5 with (go_at_call 8; refine (known_c _).mono ?_; rintro e w4 ⟨rfl, b4⟩)
  have c4 := stb c2 b4
  have H4 := H2.below b4
  have K4 := K2.below b4
  have hlt4 := blk_lt H4.blk
  have hlt5 := blk_lt K4.blk
  have hr4 := Lib.hid ((hrB.out _ c4).alloc (Nat.le_refl _) (.cells #[] 35))
  clear c2 b4 H2 K2
  go_upto_region 6 with (first
    | (at_builtin; refine wpList_append_any _ rfl (.tmp 25) (.tmp 26) _ rfl w4.heap.size 35 i0 _ 2 16 Try.underlying29 hi0 hz0 hz1 hz2 rfl (by omega) (.slice (some ⟨w4.heap.size, 0, none⟩) 0 0) 0 [] rfl (World.ownsRow_made w4 #[] 0 (Nat.le_refl _) (by decide) (by rfl)) w4.heap.size A n c (flat l) rfl hr4.out f1 (by unfold maxLen; omega) (by omega) (by simp) ?_; intro v5 w5 hown5 hgrow5 hat5; obtain ⟨a5, k5, rfl⟩ := own_shape hown5
       have b5 : Below w4.heap.size w4 w5 := ((Below.refl _ _).alloc (Nat.le_refl _) _).grown hgrow5 (by simp) (fun k hk => by simp [Value.ownBlock] at hk; omega)
       simp only [Nat.zero_add, List.nil_append] at hown5
       have c5 := stb c4 b5; have H5 := H4.below b5; have K5 := K4.below b5)
    | (go_at_call 27; refine (join_own rel25 rel26 H5 (hz c5) (Bx := w4.heap.size) (xs := l) hown5 hlt4 (by intro k hk; simp [Value.ownBlock] at hk) (by simp; omega)).mono ?_; rintro e w6 ⟨rfl, v6, H6, F6, _⟩; have c6 := c5.trans (fr_low H5 (hz c5) F6)))
  have F6 := fr_own_none F6 rfl
  have K6 : Chain B w6 hd 25 26 (.slice none 0 0) [] := ⟨K5.base, F6.blk K5.blk (Ne.symm hne) (by simp), ⟨by simp [flat], .inl ⟨rfl, rfl⟩⟩⟩
  clear c5 H5 hown5 F6 hat5 hgrow5 b5 c4 H4 hr4 K5 K4
  have HJ := Lib.hid (good_join0 l)
  have hJl : (joinL (bel 0) (fst 0) l []).length ≤ n := by have := joinL_length (bel 0) (fst 0) l []; rw [HN.out]; simpa using this
  obtain ⟨J, hJ⟩ : ∃ J, J = joinL (bel 0) (fst 0) l [] := ⟨_, rfl⟩
  rw [← hJ] at H6 hJl HJ
  clear hJ
  obtain ⟨nq, hnq⟩ : ∃ nq : Int, nq = (came (bel 0) (fst 0) l [] : Int) := ⟨_, rfl⟩
  rw [← hnq]
  clear hnq
  have hJb : J.length * 16 ≤ 140737488355328 := by omega
  have hr6 := Lib.hid (hrB.out _ c6)
  have hlt6 := blk_lt H6.blk
  have hlt7 := blk_lt K6.blk
  go_upto_region 8 with (at_builtin; refine wpList_append_any _ rfl (.tmp 29) (.tmp 30) _ rfl w6.heap.size 35 i0 _ 2 16 Try.underlying29 hi0 hz0 hz1 hz2 rfl (by omega) (.slice none 0 0) 0 [] rfl (World.ownsRow_nil _ _ _ _) w6.heap.size A n c (flat l) rfl hr6.out f1 (by unfold maxLen; omega) (by omega) (Nat.le_refl _) ?_; intro v7 w7 hown7 hgrow7 hat7; obtain ⟨a7, k7, rfl⟩ := own_shape hown7)
  have b7 : Below w6.heap.size w6 w7 := (Below.refl _ _).grown hgrow7 (Nat.le_refl _) (fun k hk => by simp [Value.ownBlock] at hk)
  simp only [Nat.zero_add, List.nil_append] at hown7
  have c7 := stb c6 b7
  have H7 := H6.below b7
  have K7 := K6.below b7
  have hva : ∀ k, v6.ownBlock = some k → k < w6.heap.size := fun k hk => (H6.own.lt k hk).2
  have hvr := H7.not_row
  have hle67 := b7.size
  clear c6 H6 K6 b7 hgrow7 hat7 hr6
  have hbd : B ≤ hd := K7.base
  have hsz67 : w6.heap.size ≤ w7.heap.size := hle67
  go_wp2_with fail
  go_loopw [7, 8] (fun s7 s8 wr => ∃ (i q k : Nat) (a : Option Addr) (R L : List S35) (vb : Value), s7 = .slice a q k ∧ s8 = .int .i64 i ∧ i + q ≤ n ∧ L.length ≤ i ∧ Hid (Own w6.heap.size wr (.slice a q k) q R) ∧ Hid (Chain B wr hd 25 26 vb L) ∧ Hid (∃ S, Good S L ∧ ∀ y, y ∈ l ↔ (S y ∨ y ∈ R)) ∧
    Hid (Fr w7 wr hd none) ∧ Hid (∀ b, vb.ownBlock = some b → w7.heap.size ≤ b) ∧ Hid ((Value.slice a q k).ownBlock = none ∨ (Value.slice a q k).ownBlock ≠ vb.ownBlock)) (fun s7 _ _ => sliceLen s7)
  case atStart => exact ⟨0, n, k7, a7, l, [], .slice none 0 0, rfl, rfl, by omega, by simp, Lib.hid hown7, Lib.hid K7, Lib.hid ⟨_, Good.nil, fun y => by simp⟩, Lib.hid (Fr.refl _ _ _), Lib.hid (fun b hb => by cases hb), Lib.hid (by cases h : (Value.slice a7 n k7).ownBlock <;> simp [Value.ownBlock])⟩
  case round =>
    obtain ⟨i, q, k, a, R, L, vb, rfl, rfl, hiq, hLi, HO, HC, HG, HF, HV, HD⟩ := hrel
    by_cases hq0 : 0 < q
    · obtain ⟨g, k', hv, hg6, hgl, hqk, hkm⟩ := Own.form HO.out hq0
      injection hv with hv1 _ hv3
      subst hv1; subst hv3
      unfold maxLen at hkm
      have HQ := Lib.hid (Own.len HO.out)
      by_cases hip : i < np
      · obtain ⟨bp, op, rfl, hbp, hcell⟩ := hpl.out (by omega)
        have hil : i < ps.length := by rw [← HNP.out]; exact hip
        have cp : wr.cell? ⟨bp, op + i, none⟩ = some (.int .i64 ps[i]) := (fr_cell HF.out (p := ⟨bp, op + i, none⟩) (Nat.lt_of_lt_of_le hbp (hz c7)) (by simp; omega) (by simp)).trans ((c7.cell (p := ⟨bp, op + i, none⟩) hbp).trans (hcell i hil))
        obtain ⟨pi, hpi⟩ : ∃ pi, pi = ps[i] := ⟨_, rfl⟩
        rw [← hpi] at cp
        clear hcell hpi
        have hzq : ((q : Int) == 0) = false := by simp; omega
        have hzq2 : ¬ (q : Int) = 0 := by omega
        have hb1 := Int.tmod_lt_of_pos pi (b := (q : Int)) (by omega)
        have hb2 := Int.lt_tmod_of_pos pi (b := (q : Int)) (by omega)
        go_upto_region 14 with fail
        obtain ⟨z, hz9⟩ : ∃ z, z = pi.tmod (q : Int) := ⟨_, rfl⟩
        rw [← hz9] at hb1 hb2 ⊢
        clear hz9 cp
        by_cases hneg : z < 0
        · obtain ⟨at_, hat⟩ : ∃ at_ : Nat, z + (q : Int) = (at_ : Int) := ⟨(z + q).toNat, by omega⟩
          go_upto_region 16 with fail
          try rw [hat]
          have hat : at_ < q := by omega
          clear hneg hb1 hb2
          have hq1 : at_ < R.length := by rw [← HQ.out]; exact hat
          obtain ⟨e0, e1⟩ := Own.at_ HO.out at_ hq1
          obtain ⟨x, hx⟩ : ∃ x, x = R[at_] := ⟨_, rfl⟩
          rw [← hx] at e0 e1
          have hX := Lib.hid hx
          clear hx
          obtain ⟨x0, x1⟩ := x
          simp only at e0 e1
          go_upto_region 17 with fail
          have bW : Below wr.heap.size wr (wr.alloc (.cells #[.int .i64 x0, .int .i64 x1] 35)) := (Below.refl _ _).alloc (Nat.le_refl _) _
          have gx := heap_alloc_new wr (.cells #[.int .i64 x0, .int .i64 x1] 35)
          have C2 := HC.out.below bW
          have O2 := own_below HO.out bW
          have F2 := HF.out.then_below bW
          have hbl := blk_lt gx
          have hvl : ∀ b, vb.ownBlock = some b → b < wr.heap.size := fun b hb => (HC.out.own.lt b hb).2
          have hdl0 := blk_lt HC.out.blk
          have hrl : ∀ b, (Value.slice (some ⟨g, 0, none⟩) q k).ownBlock = some b → b < wr.heap.size := fun b hb => (HO.out.lt b hb).2
          obtain ⟨bx, hbx⟩ : ∃ bx, bx = wr.heap.size := ⟨_, rfl⟩
          rw [← hbx] at gx hbl hvl hdl0 hrl ⊢
          have h7 : w7.heap.size ≤ bx := by rw [hbx]; exact HF.out.size
          have HBX := Lib.hid hbx
          clear hbx bW HC HO HF e0 e1
          generalize (wr.alloc (.cells #[.int .i64 x0, .int .i64 x1] 35)) = W2 at *
          have c0 : W2.cell? ⟨bx, 0, none⟩ = some (.int .i64 x0) := blk_cell gx 0
          have c1 : W2.cell? ⟨bx, 1, none⟩ = some (.int .i64 x1) := blk_cell gx 1
          have nbx : some bx ≠ vb.ownBlock := fun e => by have := hvl bx e.symm; omega
          have hin := insert_ex rel25 rel26 C2 ⟨x0, x1⟩ (Nat.le_trans (hz c7) F2.size) (by omega)
          have HIN := Lib.hid hin
          have HC2 := Lib.hid C2
          have HO2 := Lib.hid O2
          have HF2 := Lib.hid F2
          clear hin C2 O2 F2 gx
          go_upto_region 18 with (go_at_call 11; refine HIN.out.mono ?_; rintro e w3 ⟨bb, v3, rfl, C3, F3, V3⟩)
          have c03 := (fr_cell F3 (p := ⟨bx, 0, none⟩) hbl (by simp; omega) nbx).trans c0
          have c13 := (fr_cell F3 (p := ⟨bx, 1, none⟩) hbl (by simp; omega) nbx).trans c1
          have O3 := F3.own HO2.out (fun e => by have := (HO2.out.lt hd e).1; omega) HD.out
          have FF3 : Fr w7 w3 hd none := HF2.out.trans F3 (by
            cases hvo : vb.ownBlock with
            | none => exact .inl rfl
            | some b => exact .inr ⟨b, rfl, HV.out b hvo⟩)
          have HV3 : Hid (∀ b, v3.ownBlock = some b → w7.heap.size ≤ b) := Lib.hid (fun b hb => by
            rcases V3 with h | ⟨b', h, hb'⟩
            · exact HV.out b (h ▸ hb)
            · rw [h] at hb; injection hb with hb; omega)
          have HD3 : Hid ((Value.slice (some ⟨g, 0, none⟩) q k).ownBlock = none ∨ (Value.slice (some ⟨g, 0, none⟩) q k).ownBlock ≠ v3.ownBlock) := Lib.hid (by
            rcases V3 with h | ⟨b', h, hb'⟩
            · rw [h]; exact HD.out
            · right; rw [h]; intro e; have := hrl b' e; omega)
          have HLL3 := insertL_length (bel 0) (fst 0) ⟨x0, x1⟩ L
          have HC3 := Lib.hid C3
          have HO3 := Lib.hid O3
          have HF3 := Lib.hid FF3
          clear c0 c1 HC2 HO2 HF2 HIN nbx C3 F3 V3 O3 FF3 HV HD hbl
          by_cases h3 : (i : Int) % 3 = 0
          · have t3 : ((i : Int) % 3 == 0) = true := by simp [h3]
            have hin := insert_ex rel25 rel26 HC3.out ⟨x0, x1⟩ (Nat.le_trans (hz c7) HF3.out.size) (by omega)
            have HIN := Lib.hid hin
            clear hin h3
            go_upto_region 20 with (go_at_call 11; refine HIN.out.mono ?_; rintro e w4x ⟨bb2, v4, rfl, C4, F4, V4⟩)
            have O4 := Lib.hid (F4.own HO3.out (fun e => by have := (HO3.out.lt hd e).1; omega) HD3.out)
            have HV4 : Hid (∀ b, v4.ownBlock = some b → w7.heap.size ≤ b) := Lib.hid (fun b hb => by
              rcases V4 with h | ⟨b', h, hb'⟩
              · exact HV3.out b (h ▸ hb)
              · rw [h] at hb; injection hb with hb; have := HF3.out.size; omega)
            have F4 : Hid (Fr w7 w4x hd none) := Lib.hid (HF3.out.trans F4 (by
              cases hvo : v3.ownBlock with
              | none => exact .inl rfl
              | some b => exact .inr ⟨b, rfl, HV3.out b hvo⟩))
            have HS : Hid (∀ S, Good S L → Good (fun y => S y ∨ y = ⟨x0, x1⟩) (insertL (bel 0) (fst 0) ⟨x0, x1⟩ (insertL (bel 0) (fst 0) ⟨x0, x1⟩ L))) := Lib.hid (fun S h => ((h.insert _).insert _).same (fun y => by simp [or_assoc]))
            have HLL : Hid ((insertL (bel 0) (fst 0) ⟨x0, x1⟩ (insertL (bel 0) (fst 0) ⟨x0, x1⟩ L)).length ≤ i + 1) := Lib.hid (by
              obtain ⟨S, hS, _⟩ := HG.out
              rw [((hS.insert ⟨x0, x1⟩).insert ⟨x0, x1⟩).unique (hS.insert ⟨x0, x1⟩) (fun y => by simp [or_assoc])]
              omega)
            have C4 := Lib.hid C4
            clear HIN HC3 HO3 HF3 HV3 HD3 V4 c03 c13
            have hfl : Hid (Reads w4x w4x.heap.size 2 (some ⟨g, 0, none⟩) at_ (flat (R.take at_))) := Lib.hid (own_take O4.out at_ (by omega))
            have f2 := flat_one (R.take at_)
            have f3 := flat_one (R.drop (at_ + 1))
            have hB4 : w7.heap.size ≤ w4x.heap.size := F4.out.size
            have hqn : q ≤ n := by omega
            by_cases hcap : k = at_ + 1
            · obtain rfl : q = at_ + 1 := by omega
              have hdr : R.drop (at_ + 1) = [] := List.drop_of_length_le (by have := HQ.out; omega)
              have hRE := Lib.hid (list_take_drop HQ.out hq1 hX.out)
              rw [hdr, List.append_nil] at hRE
              go_wp2_with (first
                | (at_builtin; refine wpList_append_any _ rfl (.tmp 67) (.tmp 70) _ rfl w4x.heap.size 35 i0 _ 2 16 Try.underlying29 hi0 hz0 hz1 hz2 rfl (by omega) (.slice none 0 0) 0 [] rfl (World.ownsRow_nil _ _ _ _) w4x.heap.size (some ⟨g, 0, none⟩) at_ _ (flat (R.take at_)) rfl hfl.out f2 (by unfold maxLen; omega) (by omega) (Nat.le_refl _) ?_; intro v8 w8 hown8 hgrow8 hat8; obtain ⟨a8, k8, rfl⟩ := own_shape hown8; have b8 : Below w4x.heap.size w4x w8 := (Below.refl _ _).grown hgrow8 (Nat.le_refl _) (fun q hq => by simp [Value.ownBlock] at hq); simp only [Nat.zero_add, List.nil_append] at hown8)
                | (at_builtin; refine wpList_append_any _ rfl (.tmp 72) (.tmp 76) _ rfl w4x.heap.size 35 i0 _ 2 16 Try.underlying29 hi0 hz0 hz1 hz2 rfl (by omega) (.slice a8 at_ k8) at_ (flat (R.take at_)) rfl hown8 0 _ 0 _ [] rfl Reads.none_ (by simp) (by unfold maxLen; omega) (by omega) b8.size ?_; intro v9 w9 hown9 hgrow9 hat9; obtain ⟨a9, k9, rfl⟩ := own_shape hown9; have b9 : Below w4x.heap.size w4x w9 := b8.grown hgrow9 b8.size (fun q hq => (hown8.lt q hq).1); simp only [Nat.add_zero, List.append_nil] at hown9))
              go_roundw
              case rel => exact ⟨i + 1, at_, k9, a9, R.take at_, _, v4, rfl, by go_num, by omega, HLL.out, Lib.hid (own_weaken hown9 (by omega)), Lib.hid (C4.out.below b9), good_step HG.out hRE.out HS.out, Lib.hid (F4.out.then_below b9), HV4, Lib.hid (own_apart hown9 (fun b hb => (C4.out.own.lt b hb).2))⟩
              case measure => simp [sliceLen]
            · have hdl : (R.drop (at_ + 1)).length = q - (at_ + 1) := by rw [List.length_drop, ← HQ.out]
              have hfr : Hid (∀ w', Below w4x.heap.size w4x w' → Reads w' w'.heap.size 2 (some ⟨g, (at_ + 1) * 2, none⟩) (q - (at_ + 1)) (flat (R.drop (at_ + 1)))) := Lib.hid (fun w' b => own_drop (own_below O4.out b) (at_ + 1) (by omega))
              have hRE := Lib.hid (list_take_drop HQ.out hq1 hX.out)
              obtain ⟨m2, hm2⟩ : ∃ m2, m2 = q - (at_ + 1) := ⟨_, rfl⟩
              rw [← hm2] at hfr hdl
              have HM2 := Lib.hid hm2
              have hm2q : at_ + 1 + m2 = q := by omega
              have eqq : q - (at_ + 1) = m2 := hm2.symm
              clear hm2
              go_wp2_with (first
                | (at_builtin; refine wpList_append_any _ rfl (.tmp 67) (.tmp 70) _ rfl w4x.heap.size 35 i0 _ 2 16 Try.underlying29 hi0 hz0 hz1 hz2 rfl (by omega) (.slice none 0 0) 0 [] rfl (World.ownsRow_nil _ _ _ _) w4x.heap.size (some ⟨g, 0, none⟩) at_ _ (flat (R.take at_)) rfl hfl.out f2 (by unfold maxLen; omega) (by omega) (Nat.le_refl _) ?_; intro v8 w8 hown8 hgrow8 hat8; obtain ⟨a8, k8, rfl⟩ := own_shape hown8; have b8 : Below w4x.heap.size w4x w8 := (Below.refl _ _).grown hgrow8 (Nat.le_refl _) (fun q hq => by simp [Value.ownBlock] at hq); have hr8 := Lib.hid (hfr.out _ b8); simp only [Nat.zero_add, List.nil_append] at hown8)
                | (at_builtin; refine wpList_append_any _ rfl (.tmp 72) (.tmp 76) _ rfl w4x.heap.size 35 i0 _ 2 16 Try.underlying29 hi0 hz0 hz1 hz2 rfl (by omega) (.slice a8 at_ k8) at_ (flat (R.take at_)) rfl hown8 w8.heap.size (some ⟨g, (at_ + 1) * 2, none⟩) m2 _ (flat (R.drop (at_ + 1))) rfl hr8.out f3 (by unfold maxLen; omega) (by omega) b8.size ?_; intro v9 w9 hown9 hgrow9 hat9; obtain ⟨a9, k9, rfl⟩ := own_shape hown9; have b9 : Below w4x.heap.size w4x w9 := b8.grown hgrow9 b8.size (fun q hq => (hown8.lt q hq).1)))
              go_roundw
              case rel => exact ⟨i + 1, at_ + m2, k9, a9, R.take at_ ++ R.drop (at_ + 1), _, v4, rfl, by go_num, by omega, HLL.out, Lib.hid (by unfold Own; rw [flat_append]; exact own_weaken hown9 (by omega)), Lib.hid (C4.out.below b9), good_step HG.out hRE.out HS.out, Lib.hid (F4.out.then_below b9), HV4, Lib.hid (own_apart hown9 (fun b hb => (C4.out.own.lt b hb).2))⟩
              case measure => simp [sliceLen]; omega
          · have t3 : ((i : Int) % 3 == 0) = false := by simp [h3]
            clear h3
            go_upto_region 20 with fail
            obtain ⟨w4x, hw4⟩ : ∃ W, W = w3 := ⟨_, rfl⟩
            obtain ⟨v4, hv4⟩ : ∃ v, v = v3 := ⟨_, rfl⟩
            rw [← hw4] at HC3 HO3 HF3 ⊢
            rw [← hv4] at HC3 HV3 HD3
            have C4 := HC3
            have O4 := HO3
            have F4 := HF3
            have HV4 := HV3
            have HS : Hid (∀ S, Good S L → Good (fun y => S y ∨ y = ⟨x0, x1⟩) (insertL (bel 0) (fst 0) ⟨x0, x1⟩ L)) := Lib.hid (fun S h => h.insert _)
            have HLL : Hid ((insertL (bel 0) (fst 0) ⟨x0, x1⟩ L).length ≤ i + 1) := Lib.hid (by omega)
            clear hw4 hv4 HC3 HO3 HF3 HV3 HD3 c03 c13
            have hfl : Hid (Reads w4x w4x.heap.size 2 (some ⟨g, 0, none⟩) at_ (flat (R.take at_))) := Lib.hid (own_take O4.out at_ (by omega))
            have f2 := flat_one (R.take at_)
            have f3 := flat_one (R.drop (at_ + 1))
            have hB4 : w7.heap.size ≤ w4x.heap.size := F4.out.size
            have hqn : q ≤ n := by omega
            by_cases hcap : k = at_ + 1
            · obtain rfl : q = at_ + 1 := by omega
              have hdr : R.drop (at_ + 1) = [] := List.drop_of_length_le (by have := HQ.out; omega)
              have hRE := Lib.hid (list_take_drop HQ.out hq1 hX.out)
              rw [hdr, List.append_nil] at hRE
              go_wp2_with (first
                | (at_builtin; refine wpList_append_any _ rfl (.tmp 67) (.tmp 70) _ rfl w4x.heap.size 35 i0 _ 2 16 Try.underlying29 hi0 hz0 hz1 hz2 rfl (by omega) (.slice none 0 0) 0 [] rfl (World.ownsRow_nil _ _ _ _) w4x.heap.size (some ⟨g, 0, none⟩) at_ _ (flat (R.take at_)) rfl hfl.out f2 (by unfold maxLen; omega) (by omega) (Nat.le_refl _) ?_; intro v8 w8 hown8 hgrow8 hat8; obtain ⟨a8, k8, rfl⟩ := own_shape hown8; have b8 : Below w4x.heap.size w4x w8 := (Below.refl _ _).grown hgrow8 (Nat.le_refl _) (fun q hq => by simp [Value.ownBlock] at hq); simp only [Nat.zero_add, List.nil_append] at hown8)
                | (at_builtin; refine wpList_append_any _ rfl (.tmp 72) (.tmp 76) _ rfl w4x.heap.size 35 i0 _ 2 16 Try.underlying29 hi0 hz0 hz1 hz2 rfl (by omega) (.slice a8 at_ k8) at_ (flat (R.take at_)) rfl hown8 0 _ 0 _ [] rfl Reads.none_ (by simp) (by unfold maxLen; omega) (by omega) b8.size ?_; intro v9 w9 hown9 hgrow9 hat9; obtain ⟨a9, k9, rfl⟩ := own_shape hown9; have b9 : Below w4x.heap.size w4x w9 := b8.grown hgrow9 b8.size (fun q hq => (hown8.lt q hq).1); simp only [Nat.add_zero, List.append_nil] at hown9))
              go_roundw
              case rel => exact ⟨i + 1, at_, k9, a9, R.take at_, _, v4, rfl, by go_num, by omega, HLL.out, Lib.hid (own_weaken hown9 (by omega)), Lib.hid (C4.out.below b9), good_step HG.out hRE.out HS.out, Lib.hid (F4.out.then_below b9), HV4, Lib.hid (own_apart hown9 (fun b hb => (C4.out.own.lt b hb).2))⟩
              case measure => simp [sliceLen]
            · have hdl : (R.drop (at_ + 1)).length = q - (at_ + 1) := by rw [List.length_drop, ← HQ.out]
              have hfr : Hid (∀ w', Below w4x.heap.size w4x w' → Reads w' w'.heap.size 2 (some ⟨g, (at_ + 1) * 2, none⟩) (q - (at_ + 1)) (flat (R.drop (at_ + 1)))) := Lib.hid (fun w' b => own_drop (own_below O4.out b) (at_ + 1) (by omega))
              have hRE := Lib.hid (list_take_drop HQ.out hq1 hX.out)
              obtain ⟨m2, hm2⟩ : ∃ m2, m2 = q - (at_ + 1) := ⟨_, rfl⟩
              rw [← hm2] at hfr hdl
              have HM2 := Lib.hid hm2
              have hm2q : at_ + 1 + m2 = q := by omega
              have eqq : q - (at_ + 1) = m2 := hm2.symm
              clear hm2
              go_wp2_with (first
                | (at_builtin; refine wpList_append_any _ rfl (.tmp 67) (.tmp 70) _ rfl w4x.heap.size 35 i0 _ 2 16 Try.underlying29 hi0 hz0 hz1 hz2 rfl (by omega) (.slice none 0 0) 0 [] rfl (World.ownsRow_nil _ _ _ _) w4x.heap.size (some ⟨g, 0, none⟩) at_ _ (flat (R.take at_)) rfl hfl.out f2 (by unfold maxLen; omega) (by omega) (Nat.le_refl _) ?_; intro v8 w8 hown8 hgrow8 hat8; obtain ⟨a8, k8, rfl⟩ := own_shape hown8; have b8 : Below w4x.heap.size w4x w8 := (Below.refl _ _).grown hgrow8 (Nat.le_refl _) (fun q hq => by simp [Value.ownBlock] at hq); have hr8 := Lib.hid (hfr.out _ b8); simp only [Nat.zero_add, List.nil_append] at hown8)
                | (at_builtin; refine wpList_append_any _ rfl (.tmp 72) (.tmp 76) _ rfl w4x.heap.size 35 i0 _ 2 16 Try.underlying29 hi0 hz0 hz1 hz2 rfl (by omega) (.slice a8 at_ k8) at_ (flat (R.take at_)) rfl hown8 w8.heap.size (some ⟨g, (at_ + 1) * 2, none⟩) m2 _ (flat (R.drop (at_ + 1))) rfl hr8.out f3 (by unfold maxLen; omega) (by omega) b8.size ?_; intro v9 w9 hown9 hgrow9 hat9; obtain ⟨a9, k9, rfl⟩ := own_shape hown9; have b9 : Below w4x.heap.size w4x w9 := b8.grown hgrow9 b8.size (fun q hq => (hown8.lt q hq).1)))
              go_roundw
              case rel => exact ⟨i + 1, at_ + m2, k9, a9, R.take at_ ++ R.drop (at_ + 1), _, v4, rfl, by go_num, by omega, HLL.out, Lib.hid (by unfold Own; rw [flat_append]; exact own_weaken hown9 (by omega)), Lib.hid (C4.out.below b9), good_step HG.out hRE.out HS.out, Lib.hid (F4.out.then_below b9), HV4, Lib.hid (own_apart hown9 (fun b hb => (C4.out.own.lt b hb).2))⟩
              case measure => simp [sliceLen]; omega
        · obtain ⟨at_, rfl⟩ : ∃ at_ : Nat, z = (at_ : Int) := ⟨z.toNat, by omega⟩
          go_upto_region 16 with fail
          have hat : at_ < q := by omega
          clear hneg hb1 hb2
          have hq1 : at_ < R.length := by rw [← HQ.out]; exact hat
          obtain ⟨e0, e1⟩ := Own.at_ HO.out at_ hq1
          obtain ⟨x, hx⟩ : ∃ x, x = R[at_] := ⟨_, rfl⟩
          rw [← hx] at e0 e1
          have hX := Lib.hid hx
          clear hx
          obtain ⟨x0, x1⟩ := x
          simp only at e0 e1
          go_upto_region 17 with fail
          have bW : Below wr.heap.size wr (wr.alloc (.cells #[.int .i64 x0, .int .i64 x1] 35)) := (Below.refl _ _).alloc (Nat.le_refl _) _
          have gx := heap_alloc_new wr (.cells #[.int .i64 x0, .int .i64 x1] 35)
          have C2 := HC.out.below bW
          have O2 := own_below HO.out bW
          have F2 := HF.out.then_below bW
          have hbl := blk_lt gx
          have hvl : ∀ b, vb.ownBlock = some b → b < wr.heap.size := fun b hb => (HC.out.own.lt b hb).2
          have hdl0 := blk_lt HC.out.blk
          have hrl : ∀ b, (Value.slice (some ⟨g, 0, none⟩) q k).ownBlock = some b → b < wr.heap.size := fun b hb => (HO.out.lt b hb).2
          obtain ⟨bx, hbx⟩ : ∃ bx, bx = wr.heap.size := ⟨_, rfl⟩
          rw [← hbx] at gx hbl hvl hdl0 hrl ⊢
          have h7 : w7.heap.size ≤ bx := by rw [hbx]; exact HF.out.size
          have HBX := Lib.hid hbx
          clear hbx bW HC HO HF e0 e1
          generalize (wr.alloc (.cells #[.int .i64 x0, .int .i64 x1] 35)) = W2 at *
          have c0 : W2.cell? ⟨bx, 0, none⟩ = some (.int .i64 x0) := blk_cell gx 0
          have c1 : W2.cell? ⟨bx, 1, none⟩ = some (.int .i64 x1) := blk_cell gx 1
          have nbx : some bx ≠ vb.ownBlock := fun e => by have := hvl bx e.symm; omega
          have hin := insert_ex rel25 rel26 C2 ⟨x0, x1⟩ (Nat.le_trans (hz c7) F2.size) (by omega)
          have HIN := Lib.hid hin
          have HC2 := Lib.hid C2
          have HO2 := Lib.hid O2
          have HF2 := Lib.hid F2
          clear hin C2 O2 F2 gx
          go_upto_region 18 with (go_at_call 11; refine HIN.out.mono ?_; rintro e w3 ⟨bb, v3, rfl, C3, F3, V3⟩)
          have c03 := (fr_cell F3 (p := ⟨bx, 0, none⟩) hbl (by simp; omega) nbx).trans c0
          have c13 := (fr_cell F3 (p := ⟨bx, 1, none⟩) hbl (by simp; omega) nbx).trans c1
          have O3 := F3.own HO2.out (fun e => by have := (HO2.out.lt hd e).1; omega) HD.out
          have FF3 : Fr w7 w3 hd none := HF2.out.trans F3 (by
            cases hvo : vb.ownBlock with
            | none => exact .inl rfl
            | some b => exact .inr ⟨b, rfl, HV.out b hvo⟩)
          have HV3 : Hid (∀ b, v3.ownBlock = some b → w7.heap.size ≤ b) := Lib.hid (fun b hb => by
            rcases V3 with h | ⟨b', h, hb'⟩
            · exact HV.out b (h ▸ hb)
            · rw [h] at hb; injection hb with hb; omega)
          have HD3 : Hid ((Value.slice (some ⟨g, 0, none⟩) q k).ownBlock = none ∨ (Value.slice (some ⟨g, 0, none⟩) q k).ownBlock ≠ v3.ownBlock) := Lib.hid (by
            rcases V3 with h | ⟨b', h, hb'⟩
            · rw [h]; exact HD.out
            · right; rw [h]; intro e; have := hrl b' e; omega)
          have HLL3 := insertL_length (bel 0) (fst 0) ⟨x0, x1⟩ L
          have HC3 := Lib.hid C3
          have HO3 := Lib.hid O3
          have HF3 := Lib.hid FF3
          clear c0 c1 HC2 HO2 HF2 HIN nbx C3 F3 V3 O3 FF3 HV HD hbl
          by_cases h3 : (i : Int) % 3 = 0
          · have t3 : ((i : Int) % 3 == 0) = true := by simp [h3]
            have hin := insert_ex rel25 rel26 HC3.out ⟨x0, x1⟩ (Nat.le_trans (hz c7) HF3.out.size) (by omega)
            have HIN := Lib.hid hin
            clear hin h3
            go_upto_region 20 with (go_at_call 11; refine HIN.out.mono ?_; rintro e w4x ⟨bb2, v4, rfl, C4, F4, V4⟩)
            have O4 := Lib.hid (F4.own HO3.out (fun e => by have := (HO3.out.lt hd e).1; omega) HD3.out)
            have HV4 : Hid (∀ b, v4.ownBlock = some b → w7.heap.size ≤ b) := Lib.hid (fun b hb => by
              rcases V4 with h | ⟨b', h, hb'⟩
              · exact HV3.out b (h ▸ hb)
              · rw [h] at hb; injection hb with hb; have := HF3.out.size; omega)
            have F4 : Hid (Fr w7 w4x hd none) := Lib.hid (HF3.out.trans F4 (by
              cases hvo : v3.ownBlock with
              | none => exact .inl rfl
              | some b => exact .inr ⟨b, rfl, HV3.out b hvo⟩))
            have HS : Hid (∀ S, Good S L → Good (fun y => S y ∨ y = ⟨x0, x1⟩) (insertL (bel 0) (fst 0) ⟨x0, x1⟩ (insertL (bel 0) (fst 0) ⟨x0, x1⟩ L))) := Lib.hid (fun S h => ((h.insert _).insert _).same (fun y => by simp [or_assoc]))
            have HLL : Hid ((insertL (bel 0) (fst 0) ⟨x0, x1⟩ (insertL (bel 0) (fst 0) ⟨x0, x1⟩ L)).length ≤ i + 1) := Lib.hid (by
              obtain ⟨S, hS, _⟩ := HG.out
              rw [((hS.insert ⟨x0, x1⟩).insert ⟨x0, x1⟩).unique (hS.insert ⟨x0, x1⟩) (fun y => by simp [or_assoc])]
              omega)
            have C4 := Lib.hid C4
            clear HIN HC3 HO3 HF3 HV3 HD3 V4 c03 c13
            have hfl : Hid (Reads w4x w4x.heap.size 2 (some ⟨g, 0, none⟩) at_ (flat (R.take at_))) := Lib.hid (own_take O4.out at_ (by omega))
            have f2 := flat_one (R.take at_)
            have f3 := flat_one (R.drop (at_ + 1))
            have hB4 : w7.heap.size ≤ w4x.heap.size := F4.out.size
            have hqn : q ≤ n := by omega
            by_cases hcap : k = at_ + 1
            · obtain rfl : q = at_ + 1 := by omega
              have hdr : R.drop (at_ + 1) = [] := List.drop_of_length_le (by have := HQ.out; omega)
              have hRE := Lib.hid (list_take_drop HQ.out hq1 hX.out)
              rw [hdr, List.append_nil] at hRE
              go_wp2_with (first
                | (at_builtin; refine wpList_append_any _ rfl (.tmp 67) (.tmp 70) _ rfl w4x.heap.size 35 i0 _ 2 16 Try.underlying29 hi0 hz0 hz1 hz2 rfl (by omega) (.slice none 0 0) 0 [] rfl (World.ownsRow_nil _ _ _ _) w4x.heap.size (some ⟨g, 0, none⟩) at_ _ (flat (R.take at_)) rfl hfl.out f2 (by unfold maxLen; omega) (by omega) (Nat.le_refl _) ?_; intro v8 w8 hown8 hgrow8 hat8; obtain ⟨a8, k8, rfl⟩ := own_shape hown8; have b8 : Below w4x.heap.size w4x w8 := (Below.refl _ _).grown hgrow8 (Nat.le_refl _) (fun q hq => by simp [Value.ownBlock] at hq); simp only [Nat.zero_add, List.nil_append] at hown8)
                | (at_builtin; refine wpList_append_any _ rfl (.tmp 72) (.tmp 76) _ rfl w4x.heap.size 35 i0 _ 2 16 Try.underlying29 hi0 hz0 hz1 hz2 rfl (by omega) (.slice a8 at_ k8) at_ (flat (R.take at_)) rfl hown8 0 _ 0 _ [] rfl Reads.none_ (by simp) (by unfold maxLen; omega) (by omega) b8.size ?_; intro v9 w9 hown9 hgrow9 hat9; obtain ⟨a9, k9, rfl⟩ := own_shape hown9; have b9 : Below w4x.heap.size w4x w9 := b8.grown hgrow9 b8.size (fun q hq => (hown8.lt q hq).1); simp only [Nat.add_zero, List.append_nil] at hown9))
              go_roundw
              case rel => exact ⟨i + 1, at_, k9, a9, R.take at_, _, v4, rfl, by go_num, by omega, HLL.out, Lib.hid (own_weaken hown9 (by omega)), Lib.hid (C4.out.below b9), good_step HG.out hRE.out HS.out, Lib.hid (F4.out.then_below b9), HV4, Lib.hid (own_apart hown9 (fun b hb => (C4.out.own.lt b hb).2))⟩
              case measure => simp [sliceLen]
            · have hdl : (R.drop (at_ + 1)).length = q - (at_ + 1) := by rw [List.length_drop, ← HQ.out]
              have hfr : Hid (∀ w', Below w4x.heap.size w4x w' → Reads w' w'.heap.size 2 (some ⟨g, (at_ + 1) * 2, none⟩) (q - (at_ + 1)) (flat (R.drop (at_ + 1)))) := Lib.hid (fun w' b => own_drop (own_below O4.out b) (at_ + 1) (by omega))
              have hRE := Lib.hid (list_take_drop HQ.out hq1 hX.out)
              obtain ⟨m2, hm2⟩ : ∃ m2, m2 = q - (at_ + 1) := ⟨_, rfl⟩
              rw [← hm2] at hfr hdl
              have HM2 := Lib.hid hm2
              have hm2q : at_ + 1 + m2 = q := by omega
              have eqq : q - (at_ + 1) = m2 := hm2.symm
              clear hm2
              go_wp2_with (first
                | (at_builtin; refine wpList_append_any _ rfl (.tmp 67) (.tmp 70) _ rfl w4x.heap.size 35 i0 _ 2 16 Try.underlying29 hi0 hz0 hz1 hz2 rfl (by omega) (.slice none 0 0) 0 [] rfl (World.ownsRow_nil _ _ _ _) w4x.heap.size (some ⟨g, 0, none⟩) at_ _ (flat (R.take at_)) rfl hfl.out f2 (by unfold maxLen; omega) (by omega) (Nat.le_refl _) ?_; intro v8 w8 hown8 hgrow8 hat8; obtain ⟨a8, k8, rfl⟩ := own_shape hown8; have b8 : Below w4x.heap.size w4x w8 := (Below.refl _ _).grown hgrow8 (Nat.le_refl _) (fun q hq => by simp [Value.ownBlock] at hq); have hr8 := Lib.hid (hfr.out _ b8); simp only [Nat.zero_add, List.nil_append] at hown8)
                | (at_builtin; refine wpList_append_any _ rfl (.tmp 72) (.tmp 76) _ rfl w4x.heap.size 35 i0 _ 2 16 Try.underlying29 hi0 hz0 hz1 hz2 rfl (by omega) (.slice a8 at_ k8) at_ (flat (R.take at_)) rfl hown8 w8.heap.size (some ⟨g, (at_ + 1) * 2, none⟩) m2 _ (flat (R.drop (at_ + 1))) rfl hr8.out f3 (by unfold maxLen; omega) (by omega) b8.size ?_; intro v9 w9 hown9 hgrow9 hat9; obtain ⟨a9, k9, rfl⟩ := own_shape hown9; have b9 : Below w4x.heap.size w4x w9 := b8.grown hgrow9 b8.size (fun q hq => (hown8.lt q hq).1)))
              go_roundw
              case rel => exact ⟨i + 1, at_ + m2, k9, a9, R.take at_ ++ R.drop (at_ + 1), _, v4, rfl, by go_num, by omega, HLL.out, Lib.hid (by unfold Own; rw [flat_append]; exact own_weaken hown9 (by omega)), Lib.hid (C4.out.below b9), good_step HG.out hRE.out HS.out, Lib.hid (F4.out.then_below b9), HV4, Lib.hid (own_apart hown9 (fun b hb => (C4.out.own.lt b hb).2))⟩
              case measure => simp [sliceLen]; omega
          · have t3 : ((i : Int) % 3 == 0) = false := by simp [h3]
            clear h3
            go_upto_region 20 with fail
            obtain ⟨w4x, hw4⟩ : ∃ W, W = w3 := ⟨_, rfl⟩
            obtain ⟨v4, hv4⟩ : ∃ v, v = v3 := ⟨_, rfl⟩
            rw [← hw4] at HC3 HO3 HF3 ⊢
            rw [← hv4] at HC3 HV3 HD3
            have C4 := HC3
            have O4 := HO3
            have F4 := HF3
            have HV4 := HV3
            have HS : Hid (∀ S, Good S L → Good (fun y => S y ∨ y = ⟨x0, x1⟩) (insertL (bel 0) (fst 0) ⟨x0, x1⟩ L)) := Lib.hid (fun S h => h.insert _)
            have HLL : Hid ((insertL (bel 0) (fst 0) ⟨x0, x1⟩ L).length ≤ i + 1) := Lib.hid (by omega)
            clear hw4 hv4 HC3 HO3 HF3 HV3 HD3 c03 c13
            have hfl : Hid (Reads w4x w4x.heap.size 2 (some ⟨g, 0, none⟩) at_ (flat (R.take at_))) := Lib.hid (own_take O4.out at_ (by omega))
            have f2 := flat_one (R.take at_)
            have f3 := flat_one (R.drop (at_ + 1))
            have hB4 : w7.heap.size ≤ w4x.heap.size := F4.out.size
            have hqn : q ≤ n := by omega
            by_cases hcap : k = at_ + 1
            · obtain rfl : q = at_ + 1 := by omega
              have hdr : R.drop (at_ + 1) = [] := List.drop_of_length_le (by have := HQ.out; omega)
              have hRE := Lib.hid (list_take_drop HQ.out hq1 hX.out)
              rw [hdr, List.append_nil] at hRE
              go_wp2_with (first
                | (at_builtin; refine wpList_append_any _ rfl (.tmp 67) (.tmp 70) _ rfl w4x.heap.size 35 i0 _ 2 16 Try.underlying29 hi0 hz0 hz1 hz2 rfl (by omega) (.slice none 0 0) 0 [] rfl (World.ownsRow_nil _ _ _ _) w4x.heap.size (some ⟨g, 0, none⟩) at_ _ (flat (R.take at_)) rfl hfl.out f2 (by unfold maxLen; omega) (by omega) (Nat.le_refl _) ?_; intro v8 w8 hown8 hgrow8 hat8; obtain ⟨a8, k8, rfl⟩ := own_shape hown8; have b8 : Below w4x.heap.size w4x w8 := (Below.refl _ _).grown hgrow8 (Nat.le_refl _) (fun q hq => by simp [Value.ownBlock] at hq); simp only [Nat.zero_add, List.nil_append] at hown8)
                | (at_builtin; refine wpList_append_any _ rfl (.tmp 72) (.tmp 76) _ rfl w4x.heap.size 35 i0 _ 2 16 Try.underlying29 hi0 hz0 hz1 hz2 rfl (by omega) (.slice a8 at_ k8) at_ (flat (R.take at_)) rfl hown8 0 _ 0 _ [] rfl Reads.none_ (by simp) (by unfold maxLen; omega) (by omega) b8.size ?_; intro v9 w9 hown9 hgrow9 hat9; obtain ⟨a9, k9, rfl⟩ := own_shape hown9; have b9 : Below w4x.heap.size w4x w9 := b8.grown hgrow9 b8.size (fun q hq => (hown8.lt q hq).1); simp only [Nat.add_zero, List.append_nil] at hown9))
              go_roundw
              case rel => exact ⟨i + 1, at_, k9, a9, R.take at_, _, v4, rfl, by go_num, by omega, HLL.out, Lib.hid (own_weaken hown9 (by omega)), Lib.hid (C4.out.below b9), good_step HG.out hRE.out HS.out, Lib.hid (F4.out.then_below b9), HV4, Lib.hid (own_apart hown9 (fun b hb => (C4.out.own.lt b hb).2))⟩
              case measure => simp [sliceLen]
            · have hdl : (R.drop (at_ + 1)).length = q - (at_ + 1) := by rw [List.length_drop, ← HQ.out]
              have hfr : Hid (∀ w', Below w4x.heap.size w4x w' → Reads w' w'.heap.size 2 (some ⟨g, (at_ + 1) * 2, none⟩) (q - (at_ + 1)) (flat (R.drop (at_ + 1)))) := Lib.hid (fun w' b => own_drop (own_below O4.out b) (at_ + 1) (by omega))
              have hRE := Lib.hid (list_take_drop HQ.out hq1 hX.out)
              obtain ⟨m2, hm2⟩ : ∃ m2, m2 = q - (at_ + 1) := ⟨_, rfl⟩
              rw [← hm2] at hfr hdl
              have HM2 := Lib.hid hm2
              have hm2q : at_ + 1 + m2 = q := by omega
              have eqq : q - (at_ + 1) = m2 := hm2.symm
              clear hm2
              go_wp2_with (first
                | (at_builtin; refine wpList_append_any _ rfl (.tmp 67) (.tmp 70) _ rfl w4x.heap.size 35 i0 _ 2 16 Try.underlying29 hi0 hz0 hz1 hz2 rfl (by omega) (.slice none 0 0) 0 [] rfl (World.ownsRow_nil _ _ _ _) w4x.heap.size (some ⟨g, 0, none⟩) at_ _ (flat (R.take at_)) rfl hfl.out f2 (by unfold maxLen; omega) (by omega) (Nat.le_refl _) ?_; intro v8 w8 hown8 hgrow8 hat8; obtain ⟨a8, k8, rfl⟩ := own_shape hown8; have b8 : Below w4x.heap.size w4x w8 := (Below.refl _ _).grown hgrow8 (Nat.le_refl _) (fun q hq => by simp [Value.ownBlock] at hq); have hr8 := Lib.hid (hfr.out _ b8); simp only [Nat.zero_add, List.nil_append] at hown8)
                | (at_builtin; refine wpList_append_any _ rfl (.tmp 72) (.tmp 76) _ rfl w4x.heap.size 35 i0 _ 2 16 Try.underlying29 hi0 hz0 hz1 hz2 rfl (by omega) (.slice a8 at_ k8) at_ (flat (R.take at_)) rfl hown8 w8.heap.size (some ⟨g, (at_ + 1) * 2, none⟩) m2 _ (flat (R.drop (at_ + 1))) rfl hr8.out f3 (by unfold maxLen; omega) (by omega) b8.size ?_; intro v9 w9 hown9 hgrow9 hat9; obtain ⟨a9, k9, rfl⟩ := own_shape hown9; have b9 : Below w4x.heap.size w4x w9 := b8.grown hgrow9 b8.size (fun q hq => (hown8.lt q hq).1)))
              go_roundw
              case rel => exact ⟨i + 1, at_ + m2, k9, a9, R.take at_ ++ R.drop (at_ + 1), _, v4, rfl, by go_num, by omega, HLL.out, Lib.hid (by unfold Own; rw [flat_append]; exact own_weaken hown9 (by omega)), Lib.hid (C4.out.below b9), good_step HG.out hRE.out HS.out, Lib.hid (F4.out.then_below b9), HV4, Lib.hid (own_apart hown9 (fun b hb => (C4.out.own.lt b hb).2))⟩
              case measure => simp [sliceLen]; omega
      · go_upto_region 16 with fail
        obtain ⟨at_, hat0⟩ : ∃ at_ : Nat, at_ = 0 := ⟨0, rfl⟩
        rw [show Value.int .i64 0 = Value.int .i64 (at_ : Int) by rw [hat0]; rfl]
        have hat : at_ < q := by omega
        clear hat0
        have hq1 : at_ < R.length := by rw [← HQ.out]; exact hat
        obtain ⟨e0, e1⟩ := Own.at_ HO.out at_ hq1
        obtain ⟨x, hx⟩ : ∃ x, x = R[at_] := ⟨_, rfl⟩
        rw [← hx] at e0 e1
        have hX := Lib.hid hx
        clear hx
        obtain ⟨x0, x1⟩ := x
        simp only at e0 e1
        go_upto_region 17 with fail
        have bW : Below wr.heap.size wr (wr.alloc (.cells #[.int .i64 x0, .int .i64 x1] 35)) := (Below.refl _ _).alloc (Nat.le_refl _) _
        have gx := heap_alloc_new wr (.cells #[.int .i64 x0, .int .i64 x1] 35)
        have C2 := HC.out.below bW
        have O2 := own_below HO.out bW
        have F2 := HF.out.then_below bW
        have hbl := blk_lt gx
        have hvl : ∀ b, vb.ownBlock = some b → b < wr.heap.size := fun b hb => (HC.out.own.lt b hb).2
        have hdl0 := blk_lt HC.out.blk
        have hrl : ∀ b, (Value.slice (some ⟨g, 0, none⟩) q k).ownBlock = some b → b < wr.heap.size := fun b hb => (HO.out.lt b hb).2
        obtain ⟨bx, hbx⟩ : ∃ bx, bx = wr.heap.size := ⟨_, rfl⟩
        rw [← hbx] at gx hbl hvl hdl0 hrl ⊢
        have h7 : w7.heap.size ≤ bx := by rw [hbx]; exact HF.out.size
        have HBX := Lib.hid hbx
        clear hbx bW HC HO HF e0 e1
        generalize (wr.alloc (.cells #[.int .i64 x0, .int .i64 x1] 35)) = W2 at *
        have c0 : W2.cell? ⟨bx, 0, none⟩ = some (.int .i64 x0) := blk_cell gx 0
        have c1 : W2.cell? ⟨bx, 1, none⟩ = some (.int .i64 x1) := blk_cell gx 1
        have nbx : some bx ≠ vb.ownBlock := fun e => by have := hvl bx e.symm; omega
        have hin := insert_ex rel25 rel26 C2 ⟨x0, x1⟩ (Nat.le_trans (hz c7) F2.size) (by omega)
        have HIN := Lib.hid hin
        have HC2 := Lib.hid C2
        have HO2 := Lib.hid O2
        have HF2 := Lib.hid F2
        clear hin C2 O2 F2 gx
        go_upto_region 18 with (go_at_call 11; refine HIN.out.mono ?_; rintro e w3 ⟨bb, v3, rfl, C3, F3, V3⟩)
        have c03 := (fr_cell F3 (p := ⟨bx, 0, none⟩) hbl (by simp; omega) nbx).trans c0
        have c13 := (fr_cell F3 (p := ⟨bx, 1, none⟩) hbl (by simp; omega) nbx).trans c1
        have O3 := F3.own HO2.out (fun e => by have := (HO2.out.lt hd e).1; omega) HD.out
        have FF3 : Fr w7 w3 hd none := HF2.out.trans F3 (by
          cases hvo : vb.ownBlock with
          | none => exact .inl rfl
          | some b => exact .inr ⟨b, rfl, HV.out b hvo⟩)
        have HV3 : Hid (∀ b, v3.ownBlock = some b → w7.heap.size ≤ b) := Lib.hid (fun b hb => by
          rcases V3 with h | ⟨b', h, hb'⟩
          · exact HV.out b (h ▸ hb)
          · rw [h] at hb; injection hb with hb; omega)
        have HD3 : Hid ((Value.slice (some ⟨g, 0, none⟩) q k).ownBlock = none ∨ (Value.slice (some ⟨g, 0, none⟩) q k).ownBlock ≠ v3.ownBlock) := Lib.hid (by
          rcases V3 with h | ⟨b', h, hb'⟩
          · rw [h]; exact HD.out
          · right; rw [h]; intro e; have := hrl b' e; omega)
        have HLL3 := insertL_length (bel 0) (fst 0) ⟨x0, x1⟩ L
        have HC3 := Lib.hid C3
        have HO3 := Lib.hid O3
        have HF3 := Lib.hid FF3
        clear c0 c1 HC2 HO2 HF2 HIN nbx C3 F3 V3 O3 FF3 HV HD hbl
        by_cases h3 : (i : Int) % 3 = 0
        · have t3 : ((i : Int) % 3 == 0) = true := by simp [h3]
          have hin := insert_ex rel25 rel26 HC3.out ⟨x0, x1⟩ (Nat.le_trans (hz c7) HF3.out.size) (by omega)
          have HIN := Lib.hid hin
          clear hin h3
          go_upto_region 20 with (go_at_call 11; refine HIN.out.mono ?_; rintro e w4x ⟨bb2, v4, rfl, C4, F4, V4⟩)
          have O4 := Lib.hid (F4.own HO3.out (fun e => by have := (HO3.out.lt hd e).1; omega) HD3.out)
          have HV4 : Hid (∀ b, v4.ownBlock = some b → w7.heap.size ≤ b) := Lib.hid (fun b hb => by
            rcases V4 with h | ⟨b', h, hb'⟩
            · exact HV3.out b (h ▸ hb)
            · rw [h] at hb; injection hb with hb; have := HF3.out.size; omega)
          have F4 : Hid (Fr w7 w4x hd none) := Lib.hid (HF3.out.trans F4 (by
            cases hvo : v3.ownBlock with
            | none => exact .inl rfl
            | some b => exact .inr ⟨b, rfl, HV3.out b hvo⟩))
          have HS : Hid (∀ S, Good S L → Good (fun y => S y ∨ y = ⟨x0, x1⟩) (insertL (bel 0) (fst 0) ⟨x0, x1⟩ (insertL (bel 0) (fst 0) ⟨x0, x1⟩ L))) := Lib.hid (fun S h => ((h.insert _).insert _).same (fun y => by simp [or_assoc]))
          have HLL : Hid ((insertL (bel 0) (fst 0) ⟨x0, x1⟩ (insertL (bel 0) (fst 0) ⟨x0, x1⟩ L)).length ≤ i + 1) := Lib.hid (by
            obtain ⟨S, hS, _⟩ := HG.out
            rw [((hS.insert ⟨x0, x1⟩).insert ⟨x0, x1⟩).unique (hS.insert ⟨x0, x1⟩) (fun y => by simp [or_assoc])]
            omega)
          have C4 := Lib.hid C4
          clear HIN HC3 HO3 HF3 HV3 HD3 V4 c03 c13
          have hfl : Hid (Reads w4x w4x.heap.size 2 (some ⟨g, 0, none⟩) at_ (flat (R.take at_))) := Lib.hid (own_take O4.out at_ (by omega))
          have f2 := flat_one (R.take at_)
          have f3 := flat_one (R.drop (at_ + 1))
          have hB4 : w7.heap.size ≤ w4x.heap.size := F4.out.size
          have hqn : q ≤ n := by omega
          by_cases hcap : k = at_ + 1
          · obtain rfl : q = at_ + 1 := by omega
            have hdr : R.drop (at_ + 1) = [] := List.drop_of_length_le (by have := HQ.out; omega)
            have hRE := Lib.hid (list_take_drop HQ.out hq1 hX.out)
            rw [hdr, List.append_nil] at hRE
            go_wp2_with (first
              | (at_builtin; refine wpList_append_any _ rfl (.tmp 67) (.tmp 70) _ rfl w4x.heap.size 35 i0 _ 2 16 Try.underlying29 hi0 hz0 hz1 hz2 rfl (by omega) (.slice none 0 0) 0 [] rfl (World.ownsRow_nil _ _ _ _) w4x.heap.size (some ⟨g, 0, none⟩) at_ _ (flat (R.take at_)) rfl hfl.out f2 (by unfold maxLen; omega) (by omega) (Nat.le_refl _) ?_; intro v8 w8 hown8 hgrow8 hat8; obtain ⟨a8, k8, rfl⟩ := own_shape hown8; have b8 : Below w4x.heap.size w4x w8 := (Below.refl _ _).grown hgrow8 (Nat.le_refl _) (fun q hq => by simp [Value.ownBlock] at hq); simp only [Nat.zero_add, List.nil_append] at hown8)
              | (at_builtin; refine wpList_append_any _ rfl (.tmp 72) (.tmp 76) _ rfl w4x.heap.size 35 i0 _ 2 16 Try.underlying29 hi0 hz0 hz1 hz2 rfl (by omega) (.slice a8 at_ k8) at_ (flat (R.take at_)) rfl hown8 0 _ 0 _ [] rfl Reads.none_ (by simp) (by unfold maxLen; omega) (by omega) b8.size ?_; intro v9 w9 hown9 hgrow9 hat9; obtain ⟨a9, k9, rfl⟩ := own_shape hown9; have b9 : Below w4x.heap.size w4x w9 := b8.grown hgrow9 b8.size (fun q hq => (hown8.lt q hq).1); simp only [Nat.add_zero, List.append_nil] at hown9))
            go_roundw
            case rel => exact ⟨i + 1, at_, k9, a9, R.take at_, _, v4, rfl, by go_num, by omega, HLL.out, Lib.hid (own_weaken hown9 (by omega)), Lib.hid (C4.out.below b9), good_step HG.out hRE.out HS.out, Lib.hid (F4.out.then_below b9), HV4, Lib.hid (own_apart hown9 (fun b hb => (C4.out.own.lt b hb).2))⟩
            case measure => simp [sliceLen]
          · have hdl : (R.drop (at_ + 1)).length = q - (at_ + 1) := by rw [List.length_drop, ← HQ.out]
            have hfr : Hid (∀ w', Below w4x.heap.size w4x w' → Reads w' w'.heap.size 2 (some ⟨g, (at_ + 1) * 2, none⟩) (q - (at_ + 1)) (flat (R.drop (at_ + 1)))) := Lib.hid (fun w' b => own_drop (own_below O4.out b) (at_ + 1) (by omega))
            have hRE := Lib.hid (list_take_drop HQ.out hq1 hX.out)
            obtain ⟨m2, hm2⟩ : ∃ m2, m2 = q - (at_ + 1) := ⟨_, rfl⟩
            rw [← hm2] at hfr hdl
            have HM2 := Lib.hid hm2
            have hm2q : at_ + 1 + m2 = q := by omega
            have eqq : q - (at_ + 1) = m2 := hm2.symm
            clear hm2
            go_wp2_with (first
              | (at_builtin; refine wpList_append_any _ rfl (.tmp 67) (.tmp 70) _ rfl w4x.heap.size 35 i0 _ 2 16 Try.underlying29 hi0 hz0 hz1 hz2 rfl (by omega) (.slice none 0 0) 0 [] rfl (World.ownsRow_nil _ _ _ _) w4x.heap.size (some ⟨g, 0, none⟩) at_ _ (flat (R.take at_)) rfl hfl.out f2 (by unfold maxLen; omega) (by omega) (Nat.le_refl _) ?_; intro v8 w8 hown8 hgrow8 hat8; obtain ⟨a8, k8, rfl⟩ := own_shape hown8; have b8 : Below w4x.heap.size w4x w8 := (Below.refl _ _).grown hgrow8 (Nat.le_refl _) (fun q hq => by simp [Value.ownBlock] at hq); have hr8 := Lib.hid (hfr.out _ b8); simp only [Nat.zero_add, List.nil_append] at hown8)
              | (at_builtin; refine wpList_append_any _ rfl (.tmp 72) (.tmp 76) _ rfl w4x.heap.size 35 i0 _ 2 16 Try.underlying29 hi0 hz0 hz1 hz2 rfl (by omega) (.slice a8 at_ k8) at_ (flat (R.take at_)) rfl hown8 w8.heap.size (some ⟨g, (at_ + 1) * 2, none⟩) m2 _ (flat (R.drop (at_ + 1))) rfl hr8.out f3 (by unfold maxLen; omega) (by omega) b8.size ?_; intro v9 w9 hown9 hgrow9 hat9; obtain ⟨a9, k9, rfl⟩ := own_shape hown9; have b9 : Below w4x.heap.size w4x w9 := b8.grown hgrow9 b8.size (fun q hq => (hown8.lt q hq).1)))
            go_roundw
            case rel => exact ⟨i + 1, at_ + m2, k9, a9, R.take at_ ++ R.drop (at_ + 1), _, v4, rfl, by go_num, by omega, HLL.out, Lib.hid (by unfold Own; rw [flat_append]; exact own_weaken hown9 (by omega)), Lib.hid (C4.out.below b9), good_step HG.out hRE.out HS.out, Lib.hid (F4.out.then_below b9), HV4, Lib.hid (own_apart hown9 (fun b hb => (C4.out.own.lt b hb).2))⟩
            case measure => simp [sliceLen]; omega
        · have t3 : ((i : Int) % 3 == 0) = false := by simp [h3]
          clear h3
          go_upto_region 20 with fail
          obtain ⟨w4x, hw4⟩ : ∃ W, W = w3 := ⟨_, rfl⟩
          obtain ⟨v4, hv4⟩ : ∃ v, v = v3 := ⟨_, rfl⟩
          rw [← hw4] at HC3 HO3 HF3 ⊢
          rw [← hv4] at HC3 HV3 HD3
          have C4 := HC3
          have O4 := HO3
          have F4 := HF3
          have HV4 := HV3
          have HS : Hid (∀ S, Good S L → Good (fun y => S y ∨ y = ⟨x0, x1⟩) (insertL (bel 0) (fst 0) ⟨x0, x1⟩ L)) := Lib.hid (fun S h => h.insert _)
          have HLL : Hid ((insertL (bel 0) (fst 0) ⟨x0, x1⟩ L).length ≤ i + 1) := Lib.hid (by omega)
          clear hw4 hv4 HC3 HO3 HF3 HV3 HD3 c03 c13
          have hfl : Hid (Reads w4x w4x.heap.size 2 (some ⟨g, 0, none⟩) at_ (flat (R.take at_))) := Lib.hid (own_take O4.out at_ (by omega))
          have f2 := flat_one (R.take at_)
          have f3 := flat_one (R.drop (at_ + 1))
          have hB4 : w7.heap.size ≤ w4x.heap.size := F4.out.size
          have hqn : q ≤ n := by omega
          by_cases hcap : k = at_ + 1
          · obtain rfl : q = at_ + 1 := by omega
            have hdr : R.drop (at_ + 1) = [] := List.drop_of_length_le (by have := HQ.out; omega)
            have hRE := Lib.hid (list_take_drop HQ.out hq1 hX.out)
            rw [hdr, List.append_nil] at hRE
            go_wp2_with (first
              | (at_builtin; refine wpList_append_any _ rfl (.tmp 67) (.tmp 70) _ rfl w4x.heap.size 35 i0 _ 2 16 Try.underlying29 hi0 hz0 hz1 hz2 rfl (by omega) (.slice none 0 0) 0 [] rfl (World.ownsRow_nil _ _ _ _) w4x.heap.size (some ⟨g, 0, none⟩) at_ _ (flat (R.take at_)) rfl hfl.out f2 (by unfold maxLen; omega) (by omega) (Nat.le_refl _) ?_; intro v8 w8 hown8 hgrow8 hat8; obtain ⟨a8, k8, rfl⟩ := own_shape hown8; have b8 : Below w4x.heap.size w4x w8 := (Below.refl _ _).grown hgrow8 (Nat.le_refl _) (fun q hq => by simp [Value.ownBlock] at hq); simp only [Nat.zero_add, List.nil_append] at hown8)
              | (at_builtin; refine wpList_append_any _ rfl (.tmp 72) (.tmp 76) _ rfl w4x.heap.size 35 i0 _ 2 16 Try.underlying29 hi0 hz0 hz1 hz2 rfl (by omega) (.slice a8 at_ k8) at_ (flat (R.take at_)) rfl hown8 0 _ 0 _ [] rfl Reads.none_ (by simp) (by unfold maxLen; omega) (by omega) b8.size ?_; intro v9 w9 hown9 hgrow9 hat9; obtain ⟨a9, k9, rfl⟩ := own_shape hown9; have b9 : Below w4x.heap.size w4x w9 := b8.grown hgrow9 b8.size (fun q hq => (hown8.lt q hq).1); simp only [Nat.add_zero, List.append_nil] at hown9))
            go_roundw
            case rel => exact ⟨i + 1, at_, k9, a9, R.take at_, _, v4, rfl, by go_num, by omega, HLL.out, Lib.hid (own_weaken hown9 (by omega)), Lib.hid (C4.out.below b9), good_step HG.out hRE.out HS.out, Lib.hid (F4.out.then_below b9), HV4, Lib.hid (own_apart hown9 (fun b hb => (C4.out.own.lt b hb).2))⟩
            case measure => simp [sliceLen]
          · have hdl : (R.drop (at_ + 1)).length = q - (at_ + 1) := by rw [List.length_drop, ← HQ.out]
            have hfr : Hid (∀ w', Below w4x.heap.size w4x w' → Reads w' w'.heap.size 2 (some ⟨g, (at_ + 1) * 2, none⟩) (q - (at_ + 1)) (flat (R.drop (at_ + 1)))) := Lib.hid (fun w' b => own_drop (own_below O4.out b) (at_ + 1) (by omega))
            have hRE := Lib.hid (list_take_drop HQ.out hq1 hX.out)
            obtain ⟨m2, hm2⟩ : ∃ m2, m2 = q - (at_ + 1) := ⟨_, rfl⟩
            rw [← hm2] at hfr hdl
            have HM2 := Lib.hid hm2
            have hm2q : at_ + 1 + m2 = q := by omega
            have eqq : q - (at_ + 1) = m2 := hm2.symm
            clear hm2
            go_wp2_with (first
              | (at_builtin; refine wpList_append_any _ rfl (.tmp 67) (.tmp 70) _ rfl w4x.heap.size 35 i0 _ 2 16 Try.underlying29 hi0 hz0 hz1 hz2 rfl (by omega) (.slice none 0 0) 0 [] rfl (World.ownsRow_nil _ _ _ _) w4x.heap.size (some ⟨g, 0, none⟩) at_ _ (flat (R.take at_)) rfl hfl.out f2 (by unfold maxLen; omega) (by omega) (Nat.le_refl _) ?_; intro v8 w8 hown8 hgrow8 hat8; obtain ⟨a8, k8, rfl⟩ := own_shape hown8; have b8 : Below w4x.heap.size w4x w8 := (Below.refl _ _).grown hgrow8 (Nat.le_refl _) (fun q hq => by simp [Value.ownBlock] at hq); have hr8 := Lib.hid (hfr.out _ b8); simp only [Nat.zero_add, List.nil_append] at hown8)
              | (at_builtin; refine wpList_append_any _ rfl (.tmp 72) (.tmp 76) _ rfl w4x.heap.size 35 i0 _ 2 16 Try.underlying29 hi0 hz0 hz1 hz2 rfl (by omega) (.slice a8 at_ k8) at_ (flat (R.take at_)) rfl hown8 w8.heap.size (some ⟨g, (at_ + 1) * 2, none⟩) m2 _ (flat (R.drop (at_ + 1))) rfl hr8.out f3 (by unfold maxLen; omega) (by omega) b8.size ?_; intro v9 w9 hown9 hgrow9 hat9; obtain ⟨a9, k9, rfl⟩ := own_shape hown9; have b9 : Below w4x.heap.size w4x w9 := b8.grown hgrow9 b8.size (fun q hq => (hown8.lt q hq).1)))
            go_roundw
            case rel => exact ⟨i + 1, at_ + m2, k9, a9, R.take at_ ++ R.drop (at_ + 1), _, v4, rfl, by go_num, by omega, HLL.out, Lib.hid (by unfold Own; rw [flat_append]; exact own_weaken hown9 (by omega)), Lib.hid (C4.out.below b9), good_step HG.out hRE.out HS.out, Lib.hid (F4.out.then_below b9), HV4, Lib.hid (own_apart hown9 (fun b hb => (C4.out.own.lt b hb).2))⟩
            case measure => simp [sliceLen]; omega
    · have hq00 : q = 0 := by omega
      subst hq00
      have hR : R = [] := List.eq_nil_of_length_eq_zero (Own.len HO.out).symm
      have hLJ : L = J := by
        obtain ⟨S, h1, h2⟩ := HG.out
        exact h1.unique HJ.out (fun y => by rw [h2, hR]; simp)
      have C := HC.out
      rw [hLJ] at C
      have hah : v6.ownBlock ≠ some hd := by
        intro e
        rcases H7.own.2 with ⟨h, _⟩ | ⟨g, cap, cur, h, _, hh, _⟩
        · rw [h] at e; simp [Value.ownBlock] at e
        · rw [h] at e; simp [Value.ownBlock] at e; exact blk_ne hh K7.blk (by decide) e
      have Ha : Chain B wr hb 25 26 v6 J := ⟨H7.base, HF.out.blk H7.blk hne (by simp), HF.out.own H7.own hah (by cases h : v6.ownBlock <;> simp)⟩
      obtain ⟨nj, hnj⟩ : ∃ nj, nj = J.length := ⟨_, rfl⟩
      rw [← hnj] at hJb
      have HNJ := Lib.hid hnj
      have cr : Below B w wr := c7.trans (HF.out.below (hz c7) hbd (fun k hk => by cases hk))
      clear hnj HC HO HG HF HV HD hLJ hR
      go_wp2_with (first
        | (go_at_call 18; refine (list_n Ha HNJ hJb).mono ?_; rintro e w20 ⟨a20, k20, rfl, o20, hk20, b20⟩; have c20 := C.below b20; have d20 := stb cr b20)
        | (go_at_call 18; refine (list_n c20 HNJ hJb).mono ?_; rintro e w21 ⟨a21, k21, rfl, o21, hk21, b21⟩; have o20b := own_below o20 b21; have d21 := stb d20 b21)
        | (go_at_call 23; refine (same_c (l := J) HNJ.out (by omega) (Reads.of_own o20b) (Reads.of_own o21) hk20 hk21).mono ?_; rintro e w22 ⟨rfl, b22⟩; have A22 := ((Ha.below b20).below b21).below b22; have D22 := (c20.below b21).below b22; have d22 := stb d21 b22)
        | (go_at_call 19; refine (len_n A22 HNJ).mono ?_; rintro e w23 ⟨rfl, b23⟩; have D23 := D22.below b23; have d23 := stb d22 b23)
        | (go_at_call 19; refine (len_n D23 HNJ).mono ?_; rintro e w24 ⟨rfl, b24⟩; have d24 := stb d23 b24))
      go_ret
      exact ⟨by simp, d24⟩
end CP
end Go.Proofs.Ythchppnfffllnaa
