/- ChainWords: the walk. -/
import Derived.Test.YthchppnfffllnaaCSMin
import Derived.Test.YthchppnfffllnaaCPKnown
import Derived.Laws.Concat
import Derived.Lib.SmallJoins
set_option linter.unusedVariables false
set_option linter.unusedSimpArgs false
namespace Go.Proofs.Ythchppnfffllnaa
open Go.RowKit PChainScript
namespace CS
theorem rel30 : Rel 30 ahd := ⟨fun args W => by go_simp, fun a b w => by
  by_cases h : a.size ≤ b.size
  · have e : ahd a b = (a.toList == (b.extract 0 a.size).toList) := by unfold ahd; simp [h]
    rw [e]
    go_enter Try.func30, Try.ntmps30
    go_wp2
    go_ret
    exact ⟨rfl, Below.refl _ _⟩
  · have e : ahd a b = false := by unfold ahd; simp [h]
    rw [e]
    go_enter Try.func30, Try.ntmps30
    go_wp2
    go_ret
    exact ⟨rfl, Below.refl _ _⟩⟩
theorem rel31 : Rel 31 bef := ⟨fun args W => by go_simp, fun a b w => by
  unfold bef
  go_enter Try.func31, Try.ntmps31
  go_wp2
  go_ret
  exact ⟨rfl, Below.refl _ _⟩⟩
theorem insert_ex {fb ff : Nat} {r f : ByteArray → ByteArray → Bool} (hr : Rel fb r) (hf : Rel ff f) {B : Nat} {w : World} {hb : Nat} {v : Value} {l : List ByteArray} (H : Chain B w hb fb ff v l) (x : ByteArray) (hB : B ≤ w.heap.size) (hl : (l.length + 1) * 16 ≤ 140737488355328) :
    Calls Try.prog 32 #[.pointer (some ⟨hb, 0, none⟩), vt x] w fun e w' => ∃ b v', e = .returned (.bool b) ∧ Chain B w' hb fb ff v' (insertL r f x l) ∧ Fr w w' hb v.ownBlock := by
  refine (insert_c hr hf H x hB hl).mono ?_
  rintro e w' ⟨rfl, v', h1, h2, _⟩
  exact ⟨_, v', rfl, h1, h2⟩
theorem fr_low {B : Nat} {w w' : World} {hb fb ff : Nat} {v : Value} {l : List ByteArray} (H : Chain B w hb fb ff v l) (hB : B ≤ w.heap.size) (F : Fr w w' hb v.ownBlock) : Below B w w' :=
  F.below hB H.base (fun k hk => (H.own.lt k hk).1)
theorem own_cap {B : Nat} {w : World} {a : Option Addr} {n c : Nat} {l : List ByteArray} (ho : Own B w (.slice a n c) n l) : n ≤ c := by
  rcases Nat.eq_zero_or_pos n with h | h
  · omega
  · obtain ⟨g, k', hv, _, _, hk, hm⟩ := Own.form ho h
    injection hv with _ _ h3
    omega
theorem list_n {B : Nat} {w : World} {hb fb ff n : Nat} {v : Value} {l : List ByteArray} (H : Chain B w hb fb ff v l) (hn : Hid (n = l.length)) (hl : n * 16 ≤ 140737488355328) :
    Calls Try.prog 33 #[.pointer (some ⟨hb, 0, none⟩)] w fun e w' => ∃ a k, e = .returned (.slice a n k) ∧ Own w.heap.size w' (.slice a n k) n l ∧ n ≤ k ∧ Below w.heap.size w w' := by
  obtain rfl := hn.out
  refine (list_c H hl).mono ?_
  rintro e w' ⟨v', rfl, o, b⟩
  obtain ⟨a, k, rfl⟩ := own_shape o
  exact ⟨a, k, rfl, o, own_cap o, b⟩
theorem len_n {B : Nat} {w : World} {hb fb ff n : Nat} {v : Value} {l : List ByteArray} (H : Chain B w hb fb ff v l) (hn : Hid (n = l.length)) :
    Calls Try.prog 35 #[.pointer (some ⟨hb, 0, none⟩)] w fun e w' => e = .returned (.int .i64 n) ∧ Below w.heap.size w w' := by
  obtain rfl := hn.out
  exact len_c H
theorem covers_to {fb : Nat} {r : ByteArray → ByteArray → Bool} (hr : Rel fb r) {B : Nat} {w : World} {hb ff : Nat} {v : Value} {l : List ByteArray} (H : Chain B w hb fb ff v l) (x : ByteArray) {b : Bool} (h : l.any (fun y => r y x) = b) :
    Calls Try.prog 34 #[.pointer (some ⟨hb, 0, none⟩), vt x] w fun e w' => e = .returned (.bool b) ∧ Below w.heap.size w w' := by
  have := covers_c hr H x
  rw [h] at this
  exact this
def eqW (x y : ByteArray) : Bool := x.toList == y.toList
theorem eqW_iff (x y : ByteArray) : eqW x y = true ↔ x = y := by
  unfold eqW
  rw [beq_iff_eq]
  exact ⟨tl_inj, fun h => by rw [h]⟩
def leastB (l : List ByteArray) (y : ByteArray) : Bool := l.all (fun x => eqW x y || !ahd x y)
def againB (l : List ByteArray) (i : Nat) (y : ByteArray) : Bool := (l.take i).any (fun x => eqW x y)
theorem leastB_iff (l : List ByteArray) (y : ByteArray) : leastB l y = true ↔ ∀ z, z ∈ l → ahd z y = true → z = y := by
  unfold leastB
  rw [List.all_eq_true]
  constructor
  · intro h z hz hzy
    have := h z hz
    rw [hzy] at this
    simp at this
    exact (eqW_iff _ _).1 this
  · intro h z hz
    cases hzy : ahd z y with
    | false => simp
    | true => rw [(eqW_iff _ _).2 (h z hz hzy)]; rfl
theorem againB_iff (l : List ByteArray) (i : Nat) (y : ByteArray) : againB l i y = true ↔ y ∈ l.take i := by
  unfold againB
  rw [List.any_eq_true]
  constructor
  · rintro ⟨x, hx, h⟩; rw [← (eqW_iff _ _).1 h]; exact hx
  · intro h; exact ⟨y, h, (eqW_iff _ _).2 rfl⟩
/-- The least ones at their first places. -/
def firsts (l : List ByteArray) : Nat → List ByteArray
  | 0 => []
  | i + 1 => match l[i]? with
    | some y => if leastB l y && !againB l i y then firsts l i ++ [y] else firsts l i
    | none => firsts l i
theorem firsts_spec (l : List ByteArray) : ∀ i, i ≤ l.length → (firsts l i).Nodup ∧ (∀ y, y ∈ firsts l i ↔ (y ∈ l.take i ∧ leastB l y = true)) ∧ (firsts l i).length ≤ i := by
  intro i
  induction i with
  | zero => intro _; simp [firsts]
  | succ i ih =>
    intro hi
    obtain ⟨h1, h2, h3⟩ := ih (by omega)
    have hil : i < l.length := by omega
    have htk : l.take (i + 1) = l.take i ++ [l[i]] := List.take_succ_eq_append_getElem hil
    have e : l[i]? = some l[i] := List.getElem?_eq_getElem hil
    simp only [firsts, e]
    by_cases hc : (leastB l l[i] && !againB l i l[i]) = true
    · rw [if_pos hc]
      simp only [Bool.and_eq_true, Bool.not_eq_true'] at hc
      have hni : l[i] ∉ l.take i := fun h => by rw [(againB_iff _ _ _).2 h] at hc; simp at hc
      refine ⟨?_, fun y => ?_, by simp; omega⟩
      · rw [List.nodup_append]
        refine ⟨h1, by simp, fun a ha b hb => ?_⟩
        simp at hb
        subst hb
        rintro rfl
        exact hni ((h2 _).1 ha).1
      · rw [List.mem_append, h2, htk, List.mem_append, List.mem_singleton]
        constructor
        · rintro (⟨h, h'⟩ | rfl)
          · exact ⟨.inl h, h'⟩
          · exact ⟨.inr rfl, hc.1⟩
        · rintro ⟨h | rfl, h'⟩
          · exact .inl ⟨h, h'⟩
          · exact .inr rfl
    · rw [if_neg hc]
      refine ⟨h1, fun y => ?_, by omega⟩
      rw [h2, htk, List.mem_append, List.mem_singleton]
      constructor
      · rintro ⟨h, h'⟩; exact ⟨.inl h, h'⟩
      · rintro ⟨h | rfl, h'⟩
        · exact ⟨h, h'⟩
        · refine ⟨?_, h'⟩
          rw [h'] at hc
          simp at hc
          exact (againB_iff _ _ _).1 hc
theorem len_le : ∀ {D L : List ByteArray}, D.Nodup → (∀ x ∈ D, x ∈ L) → D.length ≤ L.length
  | [], _, _, _ => by simp
  | a :: D, L, hd, hs => by
    obtain ⟨h1, h2⟩ := List.nodup_cons.1 hd
    obtain ⟨s, t, rfl⟩ := List.append_of_mem (hs a (List.mem_cons_self ..))
    have := len_le (D := D) (L := s ++ t) h2 (fun x hx => by
      have := hs x (List.mem_cons_of_mem _ hx)
      rw [List.mem_append, List.mem_cons] at this
      rw [List.mem_append]
      rcases this with h | rfl | h
      · exact .inl h
      · exact absurd hx h1
      · exact .inr h)
    simp at this ⊢
    omega
theorem firsts_len {l L : List ByteArray} (h : Good (fun y => y ∈ l) L) : (firsts l l.length).length = L.length := by
  obtain ⟨h1, h2, _⟩ := firsts_spec l l.length (Nat.le_refl _)
  have hm : ∀ y, y ∈ firsts l l.length ↔ y ∈ L := fun y => by
    rw [h2, List.take_length, h.mem, leastB_iff]
  have hL : L.Nodup := h.sorted.imp (fun {a b} hab => by rintro rfl; exact fst0_irrefl _ hab)
  exact Nat.le_antisymm (len_le h1 fun x hx => (hm x).1 hx) (len_le hL fun x hx => (hm x).2 hx)
theorem cells_of {B : Nat} {w : World} {A : Option Addr} {n : Nat} {l : List ByteArray} (hr : Reads w w.heap.size 1 A n (flat l)) (hn : n = l.length) (hB : B = w.heap.size) (ha : 0 < n → ∃ b off, A = some ⟨b, off, none⟩) :
    0 < n → ∃ b off, A = some ⟨b, off, none⟩ ∧ b < B ∧ ∀ W, Below B w W → ∀ i, (h : i < l.length) → W.cell? ⟨b, off + i, none⟩ = some (.string l[i]) := fun h => by
  obtain ⟨b, off, rfl⟩ := ha h
  obtain ⟨ad, e, hb, hc⟩ := hr.2 h
  injection e with e
  subst e
  simp only at hb
  refine ⟨b, off, rfl, by omega, fun W hW i hi => ?_⟩
  have hadd : ∀ j, (⟨b, off, none⟩ : Addr).add j = ⟨b, off + j, none⟩ := fun j => by unfold Addr.add; split <;> simp_all
  have c0 := hc (i * 1 + 0) (.string l[i]) (by rw [flat_get l i 0 hi (by omega)]; rfl)
  rw [hadd] at c0
  simp at c0
  exact (hW.cell (p := ⟨b, off + i, none⟩) (by simp; omega)).trans c0
set_option maxRecDepth 100000 in
set_option maxHeartbeats 4000000 in
theorem words_c {w : World} {A : Option Addr} {n c : Nat} {l : List ByteArray} (hr : Reads w w.heap.size 1 A n (flat l)) (hn : n = l.length) (hl : (n + 1) * 16 ≤ 140737488355328) (hnc : n ≤ c) (hla : 0 < n → ∃ b off, A = some ⟨b, off, none⟩)
    (hsz : ∀ x ∈ l, x.size ≤ 140737488355328) :
    Calls Try.prog 7 #[.slice A n c] w fun e w' => e = .returned (.bool true) ∧ Below w.heap.size w w' := by
  obtain ⟨B, hB⟩ : ∃ B, B = w.heap.size := ⟨_, rfl⟩
  have hpl := Lib.hid (cells_of hr hn hB hla)
  rw [← hB]
  have hB0 : B ≤ w.heap.size := by omega
  have c0 : Below B w w := Below.refl _ _
  have HN := Lib.hid hn
  have HSZ := Lib.hid hsz
  clear hr hn hB hla hsz
  have hz : ∀ {W : World}, Below B w W → B ≤ W.heap.size := fun h => Nat.le_trans hB0 h.size
  have stb : ∀ {W W' : World}, Below B w W → Below W.heap.size W W' → Below B w W' := fun c b => c.trans (b.mono (hz c))
  go_enter Try.func7, Try.ntmps7
  go_upto_region 2 with (go_at_call 29; refine (new_c _ B hB0 30 31).mono ?_; rintro e w1 ⟨hb, rfl, hhb, H1, b1⟩)
  have c1 := stb c0 b1
  clear b1 c0 hhb
  go_upto_region 4 with (go_at_call 8; refine (CP.known_c _).mono ?_; rintro e w4 ⟨rfl, b4⟩)
  have c4 := stb c1 b4
  have H4 := H1.below b4
  clear c1 b4 H1
  go_wp2_with fail
  go_loopw [4] (fun s4 wr => ∃ (i : Nat) (v : Value) (L : List ByteArray), s4 = .int .i64 i ∧ i ≤ n ∧ L.length ≤ i ∧ Hid (L = joinL ahd bef (l.take i) []) ∧ Hid (Chain B wr hb 30 31 v L) ∧ Hid (Below B w wr)) (fun s4 _ => n - (intOf s4).toNat)
  case atStart => exact ⟨0, _, [], rfl, by omega, by simp, Lib.hid rfl, Lib.hid H4, Lib.hid c4⟩
  case round =>
    clear H4 c4
    obtain ⟨i, v, L, rfl, hi, hLi, HL, HC, HCR⟩ := hrel
    by_cases hlt : i < n
    · obtain ⟨gl, ol, rfl, hgl, hcell⟩ := hpl.out (by omega)
      have hil : i < l.length := by rw [← HN.out]; exact hlt
      have e0 := hcell _ HCR.out i hil
      have htk : l.take (i + 1) = l.take i ++ [l[i]] := List.take_succ_eq_append_getElem hil
      obtain ⟨x, hx⟩ : ∃ x, x = l[i] := ⟨_, rfl⟩
      rw [← hx] at e0 htk
      have hLb : (L.length + 1) * 16 ≤ 140737488355328 := by omega
      have hL2 := insertL_length ahd bef x L
      have HL2 : Hid (insertL ahd bef x L = joinL ahd bef (l.take (i + 1)) []) := Lib.hid (by rw [htk, joinL_snoc, HL.out])
      clear hx htk
      go_wp2_with (go_at_call 32; refine (insert_ex rel30 rel31 HC.out x (hz HCR.out) hLb).mono ?_; rintro e w5 ⟨bb, v5, rfl, C5, F5⟩)
      go_roundw
      case rel => exact ⟨i + 1, v5, _, by go_num, by omega, by omega, HL2, Lib.hid C5, Lib.hid (HCR.out.trans (fr_low HC.out (hz HCR.out) F5))⟩
      case measure => simp [intOf]; omega
    · have hin : n = i := by omega
      have htk : l.take i = l := List.take_of_length_le (by rw [← HN.out]; omega)
      have hLq := HL.out
      rw [htk] at hLq
      have hG := good_join0 l
      rw [← hLq] at hG
      have HG := Lib.hid hG
      have HC := HC.out
      have cr := HCR.out
      obtain ⟨k, hk⟩ : ∃ k, k = L.length := ⟨_, rfl⟩
      have HK := Lib.hid hk
      have hLb : k * 16 ≤ 140737488355328 := by omega
      clear hLq hG htk HL HCR hin hk
      go_upto_region 9 with (go_at_call 33; refine (list_n HC HK hLb).mono ?_; rintro e w11 ⟨a11, k11, rfl, o11, hk11, b11⟩)
      have c11 := stb cr b11
      have H11 := HC.below b11
      have hform : Hid (0 < k → ∃ g, a11 = some ⟨g, 0, none⟩ ∧ k ≤ k11 ∧ k11 ≤ maxLen ∧ g < w11.heap.size) := Lib.hid (fun h => by
        obtain ⟨g, k', hv, _, hg, hk, hm⟩ := Own.form o11 h
        injection hv with h1 _ h3
        subst h3
        exact ⟨g, h1, hk, hm, hg⟩)
      have HO := Lib.hid o11
      have c11 := Lib.hid c11
      have H11 := Lib.hid H11
      clear o11 hk11 HC cr b11 hlt
      have st11 : ∀ {W : World}, Below w11.heap.size w11 W → Below B w W := fun b => stb c11.out b
      go_wp2_with fail
      go_loopw [6] (fun s6 wr => ∃ (i : Nat), s6 = .int .i64 i ∧ i ≤ k ∧ Hid (Below w11.heap.size w11 wr)) (fun s6 _ => k - (intOf s6).toNat)
      case atStart => exact ⟨0, rfl, by omega, Lib.hid (Below.refl _ _)⟩
      case round =>
        obtain ⟨i, rfl, hi, HB⟩ := hrel
        by_cases hig : i < k
        · obtain ⟨gq, rfl, hkk, hkm, hgq⟩ := hform.out (by omega)
          unfold maxLen at hkm
          have hiL : i < L.length := by rw [← HK.out]; exact hig
          have e1 := Own.at_ (own_below HO.out HB.out) i hiL
          obtain ⟨y, hy⟩ : ∃ y, y = L[i] := ⟨_, rfl⟩
          rw [← hy] at e1
          have HY := Lib.hid hy
          clear hy
          go_upto_region 12 with fail
          go_cut [54] (fun s wx => s = .bool false ∧ Below wr.heap.size wr wx)
          case first =>
            by_cases hi0q : i = 0
            · subst hi0q
              refine wp_region_held_drew (S := fun w' => True) (by kernel_rfl) trivial (fun hHeld => ?_)
              refine take_d (v := ?_) 0 41 rfl rfl (by kernel_rfl) (by kernel_rfl) (by kernel_rfl) (fun _ _ _ h => h) (by kernel_rfl) ?_ (by assumption) ?_
              rotate_left
              · (intro w hSw; (try dsimp only at hSw); go_simp; first | done | with_reducible rfl)
              try simp only [Act.put, List.setIfInBounds_toArray, List.set_cons_zero, List.set_cons_succ]
              refine take_d (v := ?_) 1 42 rfl rfl (by kernel_rfl) (by kernel_rfl) (by kernel_rfl) (fun _ _ _ h => h) (by kernel_rfl) ?_ (by assumption) ?_
              rotate_left
              · (intro w hSw; (try dsimp only at hSw); go_simp; first | done | with_reducible rfl)
              try simp only [Act.put, List.setIfInBounds_toArray, List.set_cons_zero, List.set_cons_succ]
              refine take_d (v := ?_) 2 43 rfl rfl (by kernel_rfl) (by kernel_rfl) (by kernel_rfl) (fun _ _ _ h => h) (by kernel_rfl) ?_ (by assumption) ?_
              rotate_left
              · (intro w hSw; (try dsimp only at hSw); go_simp; first | done | with_reducible rfl)
              try simp only [Act.put, List.setIfInBounds_toArray, List.set_cons_zero, List.set_cons_succ]
              refine off_d 3 44 rfl rfl (by kernel_rfl) (by kernel_rfl) (by kernel_rfl) (fun _ _ _ h => h) (by kernel_rfl) (by assumption) ?_
              try simp only [Act.put, List.setIfInBounds_toArray, List.set_cons_zero, List.set_cons_succ]
              refine off_d 4 45 rfl rfl (by kernel_rfl) (by kernel_rfl) (by kernel_rfl) (fun _ _ _ h => h) (by kernel_rfl) (by assumption) ?_
              try simp only [Act.put, List.setIfInBounds_toArray, List.set_cons_zero, List.set_cons_succ]
              refine off_d 5 46 rfl rfl (by kernel_rfl) (by kernel_rfl) (by kernel_rfl) (fun _ _ _ h => h) (by kernel_rfl) (by assumption) ?_
              try simp only [Act.put, List.setIfInBounds_toArray, List.set_cons_zero, List.set_cons_succ]
              refine off_d 6 47 rfl rfl (by kernel_rfl) (by kernel_rfl) (by kernel_rfl) (fun _ _ _ h => h) (by kernel_rfl) (by assumption) ?_
              try simp only [Act.put, List.setIfInBounds_toArray, List.set_cons_zero, List.set_cons_succ]
              refine off_d 7 48 rfl rfl (by kernel_rfl) (by kernel_rfl) (by kernel_rfl) (fun _ _ _ h => h) (by kernel_rfl) (by assumption) ?_
              try simp only [Act.put, List.setIfInBounds_toArray, List.set_cons_zero, List.set_cons_succ]
              refine off_d 8 49 rfl rfl (by kernel_rfl) (by kernel_rfl) (by kernel_rfl) (fun _ _ _ h => h) (by kernel_rfl) (by assumption) ?_
              try simp only [Act.put, List.setIfInBounds_toArray, List.set_cons_zero, List.set_cons_succ]
              refine off_d 9 50 rfl rfl (by kernel_rfl) (by kernel_rfl) (by kernel_rfl) (fun _ _ _ h => h) (by kernel_rfl) (by assumption) ?_
              try simp only [Act.put, List.setIfInBounds_toArray, List.set_cons_zero, List.set_cons_succ]
              refine off_d 10 51 rfl rfl (by kernel_rfl) (by kernel_rfl) (by kernel_rfl) (fun _ _ _ h => h) (by kernel_rfl) (by assumption) ?_
              try simp only [Act.put, List.setIfInBounds_toArray, List.set_cons_zero, List.set_cons_succ]
              refine off_d 11 52 rfl rfl (by kernel_rfl) (by kernel_rfl) (by kernel_rfl) (fun _ _ _ h => h) (by kernel_rfl) (by assumption) ?_
              try simp only [Act.put, List.setIfInBounds_toArray, List.set_cons_zero, List.set_cons_succ]
              refine off_d 12 53 rfl rfl (by kernel_rfl) (by kernel_rfl) (by kernel_rfl) (fun _ _ _ h => h) (by kernel_rfl) (by assumption) ?_
              try simp only [Act.put, List.setIfInBounds_toArray, List.set_cons_zero, List.set_cons_succ]
              refine take_d (v := ?_) 13 54 rfl rfl (by kernel_rfl) (by kernel_rfl) (by kernel_rfl) (fun _ _ _ h => h) (by kernel_rfl) ?_ (by assumption) ?_
              rotate_left
              · (intro w hSw; (try dsimp only at hSw); go_simp; first | done | with_reducible rfl)
              try simp only [Act.put, List.setIfInBounds_toArray, List.set_cons_zero, List.set_cons_succ]
              refine wpAnyH_done (by kernel_rfl) ?_ _
              go_wp2_with fail
              go_meet
              exact ⟨rfl, (Below.refl _ _).drew⟩
            · have him : i - 1 < L.length := by omega
              have e0 := Own.at_ (own_below HO.out HB.out) (i - 1) him
              obtain ⟨x, hx⟩ : ∃ x, x = L[i - 1] := ⟨_, rfl⟩
              rw [← hx] at e0
              have hyes : Op.bytesLess x.toList y.toList = true := by
                rw [hx, HY.out]
                exact List.pairwise_iff_getElem.1 HG.out.sorted (i - 1) i him hiL (by omega)
              clear hx
              have q0 : decide ((0 : Int) < (i : Int)) = true := by simp; omega
              have q1 : IntKind.i64.wrap ((i : Int) - 1) = (i : Int) - 1 := IntWalk.i64_in _ ⟨by omega, by omega⟩
              have q2 : (0 : Int) ≤ (i : Int) - 1 := by omega
              have q3 : (i : Int) - 1 < (k : Int) := by omega
              have q5 : (1 : Int) ≤ (i : Int) := by omega
              have q6 : 0 < i := by omega
              have q4 : ((i : Int) - 1).toNat = i - 1 := by omega
              refine wp_region_held_drew (S := fun w' => w'.cell? ⟨gq, i - 1, none⟩ = some (.string x) ∧ w'.cell? ⟨gq, i, none⟩ = some (.string y)) (by kernel_rfl) ⟨e0, e1⟩ (fun hHeld => ?_)
              refine take_d (v := ?_) 0 41 rfl rfl (by kernel_rfl) (by kernel_rfl) (by kernel_rfl) (fun _ _ _ h => h) (by kernel_rfl) ?_ (by assumption) ?_
              rotate_left
              · (intro w hSw; (try dsimp only at hSw); go_simp; first | done | with_reducible rfl)
              try simp only [Act.put, List.setIfInBounds_toArray, List.set_cons_zero, List.set_cons_succ]
              refine take_d (v := ?_) 1 42 rfl rfl (by kernel_rfl) (by kernel_rfl) (by kernel_rfl) (fun _ _ _ h => h) (by kernel_rfl) ?_ (by assumption) ?_
              rotate_left
              · (intro w hSw; (try dsimp only at hSw); go_simp; first | done | with_reducible rfl)
              try simp only [Act.put, List.setIfInBounds_toArray, List.set_cons_zero, List.set_cons_succ]
              refine take_d (v := ?_) 2 43 rfl rfl (by kernel_rfl) (by kernel_rfl) (by kernel_rfl) (fun _ _ _ h => h) (by kernel_rfl) ?_ (by assumption) ?_
              rotate_left
              · (intro w hSw; (try dsimp only at hSw); go_simp; first | done | with_reducible rfl)
              try simp only [Act.put, List.setIfInBounds_toArray, List.set_cons_zero, List.set_cons_succ]
              refine take_d (v := ?_) 3 44 rfl rfl (by kernel_rfl) (by kernel_rfl) (by kernel_rfl) (fun _ _ _ h => h) (by kernel_rfl) ?_ (by assumption) ?_
              rotate_left
              · (intro w hSw; (try dsimp only at hSw); go_simp; first | done | with_reducible rfl)
              try simp only [Act.put, List.setIfInBounds_toArray, List.set_cons_zero, List.set_cons_succ]
              refine take_d (v := ?_) 4 45 rfl rfl (by kernel_rfl) (by kernel_rfl) (by kernel_rfl) (fun _ _ _ h => h) (by kernel_rfl) ?_ (by assumption) ?_
              rotate_left
              · (intro w hSw; (try dsimp only at hSw); go_simp; first | done | with_reducible rfl)
              try simp only [Act.put, List.setIfInBounds_toArray, List.set_cons_zero, List.set_cons_succ]
              refine take_d (v := ?_) 5 46 rfl rfl (by kernel_rfl) (by kernel_rfl) (by kernel_rfl) (fun _ _ _ h => h) (by kernel_rfl) ?_ (by assumption) ?_
              rotate_left
              · (intro w hSw; (try dsimp only at hSw); go_simp; first | done | with_reducible rfl)
              try simp only [Act.put, List.setIfInBounds_toArray, List.set_cons_zero, List.set_cons_succ]
              refine take_d (v := ?_) 6 47 rfl rfl (by kernel_rfl) (by kernel_rfl) (by kernel_rfl) (fun _ _ _ h => h) (by kernel_rfl) ?_ (by assumption) ?_
              rotate_left
              · (intro w hSw; (try dsimp only at hSw); go_simp; first | done | with_reducible rfl)
              try simp only [Act.put, List.setIfInBounds_toArray, List.set_cons_zero, List.set_cons_succ]
              refine take_d (v := ?_) 7 48 rfl rfl (by kernel_rfl) (by kernel_rfl) (by kernel_rfl) (fun _ _ _ h => h) (by kernel_rfl) ?_ (by assumption) ?_
              rotate_left
              · (intro w hSw; (try dsimp only at hSw); go_simp; first | done | with_reducible rfl)
              try simp only [Act.put, List.setIfInBounds_toArray, List.set_cons_zero, List.set_cons_succ]
              refine take_d (v := ?_) 8 49 rfl rfl (by kernel_rfl) (by kernel_rfl) (by kernel_rfl) (fun _ _ _ h => h) (by kernel_rfl) ?_ (by assumption) ?_
              rotate_left
              · (intro w hSw; (try dsimp only at hSw); go_simp; first | done | with_reducible rfl)
              try simp only [Act.put, List.setIfInBounds_toArray, List.set_cons_zero, List.set_cons_succ]
              refine take_d (v := ?_) 9 50 rfl rfl (by kernel_rfl) (by kernel_rfl) (by kernel_rfl) (fun _ _ _ h => h) (by kernel_rfl) ?_ (by assumption) ?_
              rotate_left
              · (intro w hSw; (try dsimp only at hSw); go_simp; first | done | with_reducible rfl)
              try simp only [Act.put, List.setIfInBounds_toArray, List.set_cons_zero, List.set_cons_succ]
              refine take_d (v := ?_) 10 51 rfl rfl (by kernel_rfl) (by kernel_rfl) (by kernel_rfl) (fun _ _ _ h => h) (by kernel_rfl) ?_ (by assumption) ?_
              rotate_left
              · (intro w hSw; (try dsimp only at hSw); go_simp; first | done | with_reducible rfl)
              try simp only [Act.put, List.setIfInBounds_toArray, List.set_cons_zero, List.set_cons_succ]
              refine take_d (v := ?_) 11 52 rfl rfl (by kernel_rfl) (by kernel_rfl) (by kernel_rfl) (fun _ _ _ h => h) (by kernel_rfl) ?_ (by assumption) ?_
              rotate_left
              · (intro w hSw; (try dsimp only at hSw); go_simp; first | done | with_reducible rfl)
              try simp only [Act.put, List.setIfInBounds_toArray, List.set_cons_zero, List.set_cons_succ]
              refine take_d (v := ?_) 12 53 rfl rfl (by kernel_rfl) (by kernel_rfl) (by kernel_rfl) (fun _ _ _ h => h) (by kernel_rfl) ?_ (by assumption) ?_
              rotate_left
              · (intro w hSw; (try dsimp only at hSw); go_simp; first | done | with_reducible rfl)
              try simp only [Act.put, List.setIfInBounds_toArray, List.set_cons_zero, List.set_cons_succ]
              refine take_d (v := ?_) 13 54 rfl rfl (by kernel_rfl) (by kernel_rfl) (by kernel_rfl) (fun _ _ _ h => h) (by kernel_rfl) ?_ (by assumption) ?_
              rotate_left
              · (intro w hSw; (try dsimp only at hSw); go_simp; first | done | with_reducible rfl)
              try simp only [Act.put, List.setIfInBounds_toArray, List.set_cons_zero, List.set_cons_succ]
              refine wpAnyH_done (by kernel_rfl) ?_ _
              go_wp2_with fail
              go_meet
              exact ⟨rfl, (Below.refl _ _).drew⟩
          case rest =>
          obtain ⟨rfl, b9⟩ := hcut
          clear e1
          go_wp2_with fail
          have HB3 := Lib.hid (HB.out.trans (b9.mono HB.out.size))
          refine ⟨?_, ?_⟩
          · exact ⟨i + 1, by go_num, by omega, HB3⟩
          · simp [intOf]; omega
        · go_upto_region 15 with fail
          go_wp2_with fail
          go_loopw [7, 8] (fun s7 s8 wr => ∃ (i q : Nat), s7 = .int .i64 q ∧ s8 = .int .i64 i ∧ i ≤ n ∧ q ≤ i ∧ Hid (q = (firsts l i).length) ∧ Hid (Below w11.heap.size w11 wr)) (fun _ s8 _ => n - (intOf s8).toNat)
          case atStart => exact ⟨0, 0, rfl, rfl, by omega, by omega, Lib.hid rfl, HB⟩
          case round =>
            clear HB hig
            obtain ⟨i, q, rfl, rfl, hi, hq, HQ, HB⟩ := hrel
            by_cases hin : i < n
            · obtain ⟨gl, ol, rfl, hgl, hcell⟩ := hpl.out (by omega)
              have hcell := Lib.hid hcell
              have hil : i < l.length := by rw [← HN.out]; exact hin
              obtain ⟨y, hy⟩ : ∃ y, y = l[i] := ⟨_, rfl⟩
              have HY := Lib.hid hy
              have hcy : Hid (∀ W, Below w11.heap.size w11 W → W.cell? ⟨gl, ol + i, none⟩ = some (.string y)) := Lib.hid (fun W hW => by rw [HY.out]; exact hcell.out _ (st11 hW) i hil)
              have hys : y.size ≤ 140737488355328 := HSZ.out y (by rw [hy]; exact List.getElem_mem hil)
              clear hy
              go_upto_region 20 with fail
              go_wp2_with fail
              go_loopw [9, 10, 11] (fun s9 s10 s11 wr => ∃ (j : Nat) (lb ag : Bool), s9 = .bool lb ∧ s10 = .bool ag ∧ s11 = .int .i64 j ∧ j ≤ n ∧ Hid (lb = (l.take j).all (fun x => eqW x y || !ahd x y)) ∧ Hid (ag = (l.take (min j i)).any (fun x => eqW x y)) ∧ Hid (Below w11.heap.size w11 wr)) (fun _ _ s11 _ => n - (intOf s11).toNat)
              case atStart => exact ⟨0, true, false, rfl, rfl, rfl, by omega, Lib.hid (by simp), Lib.hid (by simp), HB⟩
              case round =>
                clear HB
                obtain ⟨j, lb, ag, rfl, rfl, rfl, hj, HLB, HAG, HB⟩ := hrel
                by_cases hjn : j < n
                · have hjl : j < l.length := by rw [← HN.out]; exact hjn
                  have e0 := hcell.out _ (st11 HB.out) j hjl
                  have e1 := hcy.out _ HB.out
                  have ll : gl < wr.heap.size := Nat.lt_of_lt_of_le hgl (hz (st11 HB.out))
                  have htk : l.take (j + 1) = l.take j ++ [l[j]] := List.take_succ_eq_append_getElem hjl
                  obtain ⟨x, hx⟩ : ∃ x, x = l[j] := ⟨_, rfl⟩
                  rw [← hx] at e0 htk
                  have HT := Lib.hid htk
                  clear hx htk
                  go_upto_region 23 with fail
                  go_cut [9] (fun s wx => s = .bool (lb && (eqW x y || !ahd x y)) ∧ Below wr.heap.size wr wx)
                  case first =>
                    cases lb with
                    | false =>
                      refine wp_region_held_drew (S := fun w' => True) (by kernel_rfl) trivial (fun hHeld => ?_)
                      refine take_d (v := ?_) 0 67 rfl rfl (by kernel_rfl) (by kernel_rfl) (by kernel_rfl) (fun _ _ _ h => h) (by kernel_rfl) ?_ (by assumption) ?_
                      rotate_left
                      · (intro w hSw; (try dsimp only at hSw); go_simp; first | done | with_reducible rfl)
                      try simp only [Act.put, List.setIfInBounds_toArray, List.set_cons_zero, List.set_cons_succ]
                      refine take_d (v := ?_) 1 68 rfl rfl (by kernel_rfl) (by kernel_rfl) (by kernel_rfl) (fun _ _ _ h => h) (by kernel_rfl) ?_ (by assumption) ?_
                      rotate_left
                      · (intro w hSw; (try dsimp only at hSw); go_simp; first | done | with_reducible rfl)
                      try simp only [Act.put, List.setIfInBounds_toArray, List.set_cons_zero, List.set_cons_succ]
                      refine off_d 2 69 rfl rfl (by kernel_rfl) (by kernel_rfl) (by kernel_rfl) (fun _ _ _ h => h) (by kernel_rfl) (by assumption) ?_
                      try simp only [Act.put, List.setIfInBounds_toArray, List.set_cons_zero, List.set_cons_succ]
                      refine off_d 3 70 rfl rfl (by kernel_rfl) (by kernel_rfl) (by kernel_rfl) (fun _ _ _ h => h) (by kernel_rfl) (by assumption) ?_
                      try simp only [Act.put, List.setIfInBounds_toArray, List.set_cons_zero, List.set_cons_succ]
                      refine off_d 4 71 rfl rfl (by kernel_rfl) (by kernel_rfl) (by kernel_rfl) (fun _ _ _ h => h) (by kernel_rfl) (by assumption) ?_
                      try simp only [Act.put, List.setIfInBounds_toArray, List.set_cons_zero, List.set_cons_succ]
                      refine off_d 5 72 rfl rfl (by kernel_rfl) (by kernel_rfl) (by kernel_rfl) (fun _ _ _ h => h) (by kernel_rfl) (by assumption) ?_
                      try simp only [Act.put, List.setIfInBounds_toArray, List.set_cons_zero, List.set_cons_succ]
                      refine off_d 6 73 rfl rfl (by kernel_rfl) (by kernel_rfl) (by kernel_rfl) (fun _ _ _ h => h) (by kernel_rfl) (by assumption) ?_
                      try simp only [Act.put, List.setIfInBounds_toArray, List.set_cons_zero, List.set_cons_succ]
                      refine off_d 7 74 rfl rfl (by kernel_rfl) (by kernel_rfl) (by kernel_rfl) (fun _ _ _ h => h) (by kernel_rfl) (by assumption) ?_
                      try simp only [Act.put, List.setIfInBounds_toArray, List.set_cons_zero, List.set_cons_succ]
                      refine off_d 8 75 rfl rfl (by kernel_rfl) (by kernel_rfl) (by kernel_rfl) (fun _ _ _ h => h) (by kernel_rfl) (by assumption) ?_
                      try simp only [Act.put, List.setIfInBounds_toArray, List.set_cons_zero, List.set_cons_succ]
                      refine off_d 9 76 rfl rfl (by kernel_rfl) (by kernel_rfl) (by kernel_rfl) (fun _ _ _ h => h) (by kernel_rfl) (by assumption) ?_
                      try simp only [Act.put, List.setIfInBounds_toArray, List.set_cons_zero, List.set_cons_succ]
                      refine off_d 10 77 rfl rfl (by kernel_rfl) (by kernel_rfl) (by kernel_rfl) (fun _ _ _ h => h) (by kernel_rfl) (by assumption) ?_
                      try simp only [Act.put, List.setIfInBounds_toArray, List.set_cons_zero, List.set_cons_succ]
                      refine off_d 11 78 rfl rfl (by kernel_rfl) (by kernel_rfl) (by kernel_rfl) (fun _ _ _ h => h) (by kernel_rfl) (by assumption) ?_
                      try simp only [Act.put, List.setIfInBounds_toArray, List.set_cons_zero, List.set_cons_succ]
                      refine off_d 12 79 rfl rfl (by kernel_rfl) (by kernel_rfl) (by kernel_rfl) (fun _ _ _ h => h) (by kernel_rfl) (by assumption) ?_
                      try simp only [Act.put, List.setIfInBounds_toArray, List.set_cons_zero, List.set_cons_succ]
                      refine off_d 13 80 rfl rfl (by kernel_rfl) (by kernel_rfl) (by kernel_rfl) (fun _ _ _ h => h) (by kernel_rfl) (by assumption) ?_
                      try simp only [Act.put, List.setIfInBounds_toArray, List.set_cons_zero, List.set_cons_succ]
                      refine off_d 14 81 rfl rfl (by kernel_rfl) (by kernel_rfl) (by kernel_rfl) (fun _ _ _ h => h) (by kernel_rfl) (by assumption) ?_
                      try simp only [Act.put, List.setIfInBounds_toArray, List.set_cons_zero, List.set_cons_succ]
                      refine off_d 15 82 rfl rfl (by kernel_rfl) (by kernel_rfl) (by kernel_rfl) (fun _ _ _ h => h) (by kernel_rfl) (by assumption) ?_
                      try simp only [Act.put, List.setIfInBounds_toArray, List.set_cons_zero, List.set_cons_succ]
                      refine off_d 16 83 rfl rfl (by kernel_rfl) (by kernel_rfl) (by kernel_rfl) (fun _ _ _ h => h) (by kernel_rfl) (by assumption) ?_
                      try simp only [Act.put, List.setIfInBounds_toArray, List.set_cons_zero, List.set_cons_succ]
                      refine off_d 17 84 rfl rfl (by kernel_rfl) (by kernel_rfl) (by kernel_rfl) (fun _ _ _ h => h) (by kernel_rfl) (by assumption) ?_
                      try simp only [Act.put, List.setIfInBounds_toArray, List.set_cons_zero, List.set_cons_succ]
                      refine off_d 18 85 rfl rfl (by kernel_rfl) (by kernel_rfl) (by kernel_rfl) (fun _ _ _ h => h) (by kernel_rfl) (by assumption) ?_
                      try simp only [Act.put, List.setIfInBounds_toArray, List.set_cons_zero, List.set_cons_succ]
                      refine off_d 19 86 rfl rfl (by kernel_rfl) (by kernel_rfl) (by kernel_rfl) (fun _ _ _ h => h) (by kernel_rfl) (by assumption) ?_
                      try simp only [Act.put, List.setIfInBounds_toArray, List.set_cons_zero, List.set_cons_succ]
                      refine off_d 20 87 rfl rfl (by kernel_rfl) (by kernel_rfl) (by kernel_rfl) (fun _ _ _ h => h) (by kernel_rfl) (by assumption) ?_
                      try simp only [Act.put, List.setIfInBounds_toArray, List.set_cons_zero, List.set_cons_succ]
                      refine off_d 21 88 rfl rfl (by kernel_rfl) (by kernel_rfl) (by kernel_rfl) (fun _ _ _ h => h) (by kernel_rfl) (by assumption) ?_
                      try simp only [Act.put, List.setIfInBounds_toArray, List.set_cons_zero, List.set_cons_succ]
                      refine off_d 22 89 rfl rfl (by kernel_rfl) (by kernel_rfl) (by kernel_rfl) (fun _ _ _ h => h) (by kernel_rfl) (by assumption) ?_
                      try simp only [Act.put, List.setIfInBounds_toArray, List.set_cons_zero, List.set_cons_succ]
                      refine take_d (v := ?_) 23 90 rfl rfl (by kernel_rfl) (by kernel_rfl) (by kernel_rfl) (fun _ _ _ h => h) (by kernel_rfl) ?_ (by assumption) ?_
                      rotate_left
                      · (intro w hSw; (try dsimp only at hSw); go_simp; first | done | with_reducible rfl)
                      try simp only [Act.put, List.setIfInBounds_toArray, List.set_cons_zero, List.set_cons_succ]
                      refine take_d (v := ?_) 24 9 rfl rfl (by kernel_rfl) (by kernel_rfl) (by kernel_rfl) (fun _ _ _ h => h) (by kernel_rfl) ?_ (by assumption) ?_
                      rotate_left
                      · (intro w hSw; (try dsimp only at hSw); go_simp; first | done | with_reducible rfl)
                      try simp only [Act.put, List.setIfInBounds_toArray, List.set_cons_zero, List.set_cons_succ]
                      refine wpAnyH_done (by kernel_rfl) ?_ _
                      go_wp2_with fail
                      go_meet
                      exact ⟨by simp, (Below.refl _ _).drew⟩
                    | true =>
                      cases he : (x.toList == y.toList) with
                      | true =>
                        have he2 : eqW x y = true := he
                        refine wp_region_held_drew (S := fun w' => w'.cell? ⟨gl, ol + j, none⟩ = some (.string x) ∧ w'.cell? ⟨gl, ol + i, none⟩ = some (.string y)) (by kernel_rfl) ⟨e0, e1⟩ (fun hHeld => ?_)
                        refine take_d (v := ?_) 0 67 rfl rfl (by kernel_rfl) (by kernel_rfl) (by kernel_rfl) (fun _ _ _ h => h) (by kernel_rfl) ?_ (by assumption) ?_
                        rotate_left
                        · (intro w hSw; (try dsimp only at hSw); go_simp; first | done | with_reducible rfl)
                        try simp only [Act.put, List.setIfInBounds_toArray, List.set_cons_zero, List.set_cons_succ]
                        refine take_d (v := ?_) 1 68 rfl rfl (by kernel_rfl) (by kernel_rfl) (by kernel_rfl) (fun _ _ _ h => h) (by kernel_rfl) ?_ (by assumption) ?_
                        rotate_left
                        · (intro w hSw; (try dsimp only at hSw); go_simp; first | done | with_reducible rfl)
                        try simp only [Act.put, List.setIfInBounds_toArray, List.set_cons_zero, List.set_cons_succ]
                        refine take_d (v := ?_) 2 69 rfl rfl (by kernel_rfl) (by kernel_rfl) (by kernel_rfl) (fun _ _ _ h => h) (by kernel_rfl) ?_ (by assumption) ?_
                        rotate_left
                        · (intro w hSw; (try dsimp only at hSw); go_simp; first | done | with_reducible rfl)
                        try simp only [Act.put, List.setIfInBounds_toArray, List.set_cons_zero, List.set_cons_succ]
                        refine take_d (v := ?_) 3 70 rfl rfl (by kernel_rfl) (by kernel_rfl) (by kernel_rfl) (fun _ _ _ h => h) (by kernel_rfl) ?_ (by assumption) ?_
                        rotate_left
                        · (intro w hSw; (try dsimp only at hSw); go_simp; first | done | with_reducible rfl)
                        try simp only [Act.put, List.setIfInBounds_toArray, List.set_cons_zero, List.set_cons_succ]
                        refine take_d (v := ?_) 4 71 rfl rfl (by kernel_rfl) (by kernel_rfl) (by kernel_rfl) (fun _ _ _ h => h) (by kernel_rfl) ?_ (by assumption) ?_
                        rotate_left
                        · (intro w hSw; (try dsimp only at hSw); go_simp; first | done | with_reducible rfl)
                        try simp only [Act.put, List.setIfInBounds_toArray, List.set_cons_zero, List.set_cons_succ]
                        refine take_d (v := ?_) 5 72 rfl rfl (by kernel_rfl) (by kernel_rfl) (by kernel_rfl) (fun _ _ _ h => h) (by kernel_rfl) ?_ (by assumption) ?_
                        rotate_left
                        · (intro w hSw; (try dsimp only at hSw); go_simp; first | done | with_reducible rfl)
                        try simp only [Act.put, List.setIfInBounds_toArray, List.set_cons_zero, List.set_cons_succ]
                        refine take_d (v := ?_) 6 73 rfl rfl (by kernel_rfl) (by kernel_rfl) (by kernel_rfl) (fun _ _ _ h => h) (by kernel_rfl) ?_ (by assumption) ?_
                        rotate_left
                        · (intro w hSw; (try dsimp only at hSw); go_simp; first | done | with_reducible rfl)
                        try simp only [Act.put, List.setIfInBounds_toArray, List.set_cons_zero, List.set_cons_succ]
                        refine take_d (v := ?_) 7 74 rfl rfl (by kernel_rfl) (by kernel_rfl) (by kernel_rfl) (fun _ _ _ h => h) (by kernel_rfl) ?_ (by assumption) ?_
                        rotate_left
                        · (intro w hSw; (try dsimp only at hSw); go_simp; first | done | with_reducible rfl)
                        try simp only [Act.put, List.setIfInBounds_toArray, List.set_cons_zero, List.set_cons_succ]
                        refine take_d (v := ?_) 8 75 rfl rfl (by kernel_rfl) (by kernel_rfl) (by kernel_rfl) (fun _ _ _ h => h) (by kernel_rfl) ?_ (by assumption) ?_
                        rotate_left
                        · (intro w hSw; (try dsimp only at hSw); go_simp; first | done | with_reducible rfl)
                        try simp only [Act.put, List.setIfInBounds_toArray, List.set_cons_zero, List.set_cons_succ]
                        refine take_d (v := ?_) 9 76 rfl rfl (by kernel_rfl) (by kernel_rfl) (by kernel_rfl) (fun _ _ _ h => h) (by kernel_rfl) ?_ (by assumption) ?_
                        rotate_left
                        · (intro w hSw; (try dsimp only at hSw); go_simp; first | done | with_reducible rfl)
                        try simp only [Act.put, List.setIfInBounds_toArray, List.set_cons_zero, List.set_cons_succ]
                        refine take_d (v := ?_) 10 77 rfl rfl (by kernel_rfl) (by kernel_rfl) (by kernel_rfl) (fun _ _ _ h => h) (by kernel_rfl) ?_ (by assumption) ?_
                        rotate_left
                        · (intro w hSw; (try dsimp only at hSw); go_simp; first | done | with_reducible rfl)
                        try simp only [Act.put, List.setIfInBounds_toArray, List.set_cons_zero, List.set_cons_succ]
                        refine take_d (v := ?_) 11 78 rfl rfl (by kernel_rfl) (by kernel_rfl) (by kernel_rfl) (fun _ _ _ h => h) (by kernel_rfl) ?_ (by assumption) ?_
                        rotate_left
                        · (intro w hSw; (try dsimp only at hSw); go_simp; first | done | with_reducible rfl)
                        try simp only [Act.put, List.setIfInBounds_toArray, List.set_cons_zero, List.set_cons_succ]
                        refine off_d 12 79 rfl rfl (by kernel_rfl) (by kernel_rfl) (by kernel_rfl) (fun _ _ _ h => h) (by kernel_rfl) (by assumption) ?_
                        try simp only [Act.put, List.setIfInBounds_toArray, List.set_cons_zero, List.set_cons_succ]
                        refine off_d 13 80 rfl rfl (by kernel_rfl) (by kernel_rfl) (by kernel_rfl) (fun _ _ _ h => h) (by kernel_rfl) (by assumption) ?_
                        try simp only [Act.put, List.setIfInBounds_toArray, List.set_cons_zero, List.set_cons_succ]
                        refine off_d 14 81 rfl rfl (by kernel_rfl) (by kernel_rfl) (by kernel_rfl) (fun _ _ _ h => h) (by kernel_rfl) (by assumption) ?_
                        try simp only [Act.put, List.setIfInBounds_toArray, List.set_cons_zero, List.set_cons_succ]
                        refine off_d 15 82 rfl rfl (by kernel_rfl) (by kernel_rfl) (by kernel_rfl) (fun _ _ _ h => h) (by kernel_rfl) (by assumption) ?_
                        try simp only [Act.put, List.setIfInBounds_toArray, List.set_cons_zero, List.set_cons_succ]
                        refine off_d 16 83 rfl rfl (by kernel_rfl) (by kernel_rfl) (by kernel_rfl) (fun _ _ _ h => h) (by kernel_rfl) (by assumption) ?_
                        try simp only [Act.put, List.setIfInBounds_toArray, List.set_cons_zero, List.set_cons_succ]
                        refine off_d 17 84 rfl rfl (by kernel_rfl) (by kernel_rfl) (by kernel_rfl) (fun _ _ _ h => h) (by kernel_rfl) (by assumption) ?_
                        try simp only [Act.put, List.setIfInBounds_toArray, List.set_cons_zero, List.set_cons_succ]
                        refine off_d 18 85 rfl rfl (by kernel_rfl) (by kernel_rfl) (by kernel_rfl) (fun _ _ _ h => h) (by kernel_rfl) (by assumption) ?_
                        try simp only [Act.put, List.setIfInBounds_toArray, List.set_cons_zero, List.set_cons_succ]
                        refine off_d 19 86 rfl rfl (by kernel_rfl) (by kernel_rfl) (by kernel_rfl) (fun _ _ _ h => h) (by kernel_rfl) (by assumption) ?_
                        try simp only [Act.put, List.setIfInBounds_toArray, List.set_cons_zero, List.set_cons_succ]
                        refine off_d 20 87 rfl rfl (by kernel_rfl) (by kernel_rfl) (by kernel_rfl) (fun _ _ _ h => h) (by kernel_rfl) (by assumption) ?_
                        try simp only [Act.put, List.setIfInBounds_toArray, List.set_cons_zero, List.set_cons_succ]
                        refine off_d 21 88 rfl rfl (by kernel_rfl) (by kernel_rfl) (by kernel_rfl) (fun _ _ _ h => h) (by kernel_rfl) (by assumption) ?_
                        try simp only [Act.put, List.setIfInBounds_toArray, List.set_cons_zero, List.set_cons_succ]
                        refine take_d (v := ?_) 22 89 rfl rfl (by kernel_rfl) (by kernel_rfl) (by kernel_rfl) (fun _ _ _ h => h) (by kernel_rfl) ?_ (by assumption) ?_
                        rotate_left
                        · (intro w hSw; (try dsimp only at hSw); go_simp; first | done | with_reducible rfl)
                        try simp only [Act.put, List.setIfInBounds_toArray, List.set_cons_zero, List.set_cons_succ]
                        refine take_d (v := ?_) 23 90 rfl rfl (by kernel_rfl) (by kernel_rfl) (by kernel_rfl) (fun _ _ _ h => h) (by kernel_rfl) ?_ (by assumption) ?_
                        rotate_left
                        · (intro w hSw; (try dsimp only at hSw); go_simp; first | done | with_reducible rfl)
                        try simp only [Act.put, List.setIfInBounds_toArray, List.set_cons_zero, List.set_cons_succ]
                        refine take_d (v := ?_) 24 9 rfl rfl (by kernel_rfl) (by kernel_rfl) (by kernel_rfl) (fun _ _ _ h => h) (by kernel_rfl) ?_ (by assumption) ?_
                        rotate_left
                        · (intro w hSw; (try dsimp only at hSw); go_simp; first | done | with_reducible rfl)
                        try simp only [Act.put, List.setIfInBounds_toArray, List.set_cons_zero, List.set_cons_succ]
                        refine wpAnyH_done (by kernel_rfl) ?_ _
                        go_wp2_with fail
                        go_meet
                        exact ⟨by simp [he2], (Below.refl _ _).drew⟩
                      | false =>
                        have he2 : eqW x y = false := he
                        refine wp_region_held_drew (S := fun w' => w'.cell? ⟨gl, ol + j, none⟩ = some (.string x) ∧ w'.cell? ⟨gl, ol + i, none⟩ = some (.string y)) (by kernel_rfl) ⟨e0, e1⟩ (fun hHeld => ?_)
                        refine take_d (v := ?_) 0 67 rfl rfl (by kernel_rfl) (by kernel_rfl) (by kernel_rfl) (fun _ _ _ h => h) (by kernel_rfl) ?_ (by assumption) ?_
                        rotate_left
                        · (intro w hSw; (try dsimp only at hSw); go_simp; first | done | with_reducible rfl)
                        try simp only [Act.put, List.setIfInBounds_toArray, List.set_cons_zero, List.set_cons_succ]
                        refine take_d (v := ?_) 1 68 rfl rfl (by kernel_rfl) (by kernel_rfl) (by kernel_rfl) (fun _ _ _ h => h) (by kernel_rfl) ?_ (by assumption) ?_
                        rotate_left
                        · (intro w hSw; (try dsimp only at hSw); go_simp; first | done | with_reducible rfl)
                        try simp only [Act.put, List.setIfInBounds_toArray, List.set_cons_zero, List.set_cons_succ]
                        refine take_d (v := ?_) 2 69 rfl rfl (by kernel_rfl) (by kernel_rfl) (by kernel_rfl) (fun _ _ _ h => h) (by kernel_rfl) ?_ (by assumption) ?_
                        rotate_left
                        · (intro w hSw; (try dsimp only at hSw); go_simp; first | done | with_reducible rfl)
                        try simp only [Act.put, List.setIfInBounds_toArray, List.set_cons_zero, List.set_cons_succ]
                        refine take_d (v := ?_) 3 70 rfl rfl (by kernel_rfl) (by kernel_rfl) (by kernel_rfl) (fun _ _ _ h => h) (by kernel_rfl) ?_ (by assumption) ?_
                        rotate_left
                        · (intro w hSw; (try dsimp only at hSw); go_simp; first | done | with_reducible rfl)
                        try simp only [Act.put, List.setIfInBounds_toArray, List.set_cons_zero, List.set_cons_succ]
                        refine take_d (v := ?_) 4 71 rfl rfl (by kernel_rfl) (by kernel_rfl) (by kernel_rfl) (fun _ _ _ h => h) (by kernel_rfl) ?_ (by assumption) ?_
                        rotate_left
                        · (intro w hSw; (try dsimp only at hSw); go_simp; first | done | with_reducible rfl)
                        try simp only [Act.put, List.setIfInBounds_toArray, List.set_cons_zero, List.set_cons_succ]
                        refine take_d (v := ?_) 5 72 rfl rfl (by kernel_rfl) (by kernel_rfl) (by kernel_rfl) (fun _ _ _ h => h) (by kernel_rfl) ?_ (by assumption) ?_
                        rotate_left
                        · (intro w hSw; (try dsimp only at hSw); go_simp; first | done | with_reducible rfl)
                        try simp only [Act.put, List.setIfInBounds_toArray, List.set_cons_zero, List.set_cons_succ]
                        refine take_d (v := ?_) 6 73 rfl rfl (by kernel_rfl) (by kernel_rfl) (by kernel_rfl) (fun _ _ _ h => h) (by kernel_rfl) ?_ (by assumption) ?_
                        rotate_left
                        · (intro w hSw; (try dsimp only at hSw); go_simp; first | done | with_reducible rfl)
                        try simp only [Act.put, List.setIfInBounds_toArray, List.set_cons_zero, List.set_cons_succ]
                        refine take_d (v := ?_) 7 74 rfl rfl (by kernel_rfl) (by kernel_rfl) (by kernel_rfl) (fun _ _ _ h => h) (by kernel_rfl) ?_ (by assumption) ?_
                        rotate_left
                        · (intro w hSw; (try dsimp only at hSw); go_simp; first | done | with_reducible rfl)
                        try simp only [Act.put, List.setIfInBounds_toArray, List.set_cons_zero, List.set_cons_succ]
                        refine take_d (v := ?_) 8 75 rfl rfl (by kernel_rfl) (by kernel_rfl) (by kernel_rfl) (fun _ _ _ h => h) (by kernel_rfl) ?_ (by assumption) ?_
                        rotate_left
                        · (intro w hSw; (try dsimp only at hSw); go_simp; first | done | with_reducible rfl)
                        try simp only [Act.put, List.setIfInBounds_toArray, List.set_cons_zero, List.set_cons_succ]
                        refine take_d (v := ?_) 9 76 rfl rfl (by kernel_rfl) (by kernel_rfl) (by kernel_rfl) (fun _ _ _ h => h) (by kernel_rfl) ?_ (by assumption) ?_
                        rotate_left
                        · (intro w hSw; (try dsimp only at hSw); go_simp; first | done | with_reducible rfl)
                        try simp only [Act.put, List.setIfInBounds_toArray, List.set_cons_zero, List.set_cons_succ]
                        refine take_d (v := ?_) 10 77 rfl rfl (by kernel_rfl) (by kernel_rfl) (by kernel_rfl) (fun _ _ _ h => h) (by kernel_rfl) ?_ (by assumption) ?_
                        rotate_left
                        · (intro w hSw; (try dsimp only at hSw); go_simp; first | done | with_reducible rfl)
                        try simp only [Act.put, List.setIfInBounds_toArray, List.set_cons_zero, List.set_cons_succ]
                        refine take_d (v := ?_) 11 78 rfl rfl (by kernel_rfl) (by kernel_rfl) (by kernel_rfl) (fun _ _ _ h => h) (by kernel_rfl) ?_ (by assumption) ?_
                        rotate_left
                        · (intro w hSw; (try dsimp only at hSw); go_simp; first | done | with_reducible rfl)
                        try simp only [Act.put, List.setIfInBounds_toArray, List.set_cons_zero, List.set_cons_succ]
                        refine take_d (v := ?_) 12 79 rfl rfl (by kernel_rfl) (by kernel_rfl) (by kernel_rfl) (fun _ _ _ h => h) (by kernel_rfl) ?_ (by assumption) ?_
                        rotate_left
                        · (intro w hSw; (try dsimp only at hSw); go_simp; first | done | with_reducible rfl)
                        try simp only [Act.put, List.setIfInBounds_toArray, List.set_cons_zero, List.set_cons_succ]
                        refine take_d (v := ?_) 13 80 rfl rfl (by kernel_rfl) (by kernel_rfl) (by kernel_rfl) (fun _ _ _ h => h) (by kernel_rfl) ?_ (by assumption) ?_
                        rotate_left
                        · (intro w hSw; (try dsimp only at hSw); go_simp; first | done | with_reducible rfl)
                        try simp only [Act.put, List.setIfInBounds_toArray, List.set_cons_zero, List.set_cons_succ]
                        refine take_d (v := ?_) 14 81 rfl rfl (by kernel_rfl) (by kernel_rfl) (by kernel_rfl) (fun _ _ _ h => h) (by kernel_rfl) ?_ (by assumption) ?_
                        rotate_left
                        · (intro w hSw; (try dsimp only at hSw); go_simp; first | done | with_reducible rfl)
                        try simp only [Act.put, List.setIfInBounds_toArray, List.set_cons_zero, List.set_cons_succ]
                        refine take_d (v := ?_) 15 82 rfl rfl (by kernel_rfl) (by kernel_rfl) (by kernel_rfl) (fun _ _ _ h => h) (by kernel_rfl) ?_ (by assumption) ?_
                        rotate_left
                        · (intro w hSw; (try dsimp only at hSw); go_simp; first | done | with_reducible rfl)
                        try simp only [Act.put, List.setIfInBounds_toArray, List.set_cons_zero, List.set_cons_succ]
                        refine take_d (v := ?_) 16 83 rfl rfl (by kernel_rfl) (by kernel_rfl) (by kernel_rfl) (fun _ _ _ h => h) (by kernel_rfl) ?_ (by assumption) ?_
                        rotate_left
                        · (intro w hSw; (try dsimp only at hSw); go_simp; first | done | with_reducible rfl)
                        try simp only [Act.put, List.setIfInBounds_toArray, List.set_cons_zero, List.set_cons_succ]
                        refine take_d (v := ?_) 17 84 rfl rfl (by kernel_rfl) (by kernel_rfl) (by kernel_rfl) (fun _ _ _ h => h) (by kernel_rfl) ?_ (by assumption) ?_
                        rotate_left
                        · (intro w hSw; (try dsimp only at hSw); go_simp; first | done | with_reducible rfl)
                        try simp only [Act.put, List.setIfInBounds_toArray, List.set_cons_zero, List.set_cons_succ]
                        refine take_d (v := ?_) 18 85 rfl rfl (by kernel_rfl) (by kernel_rfl) (by kernel_rfl) (fun _ _ _ h => h) (by kernel_rfl) ?_ (by assumption) ?_
                        rotate_left
                        · (intro w hSw; (try dsimp only at hSw); go_simp; first | done | with_reducible rfl)
                        try simp only [Act.put, List.setIfInBounds_toArray, List.set_cons_zero, List.set_cons_succ]
                        refine take_d (v := ?_) 19 86 rfl rfl (by kernel_rfl) (by kernel_rfl) (by kernel_rfl) (fun _ _ _ h => h) (by kernel_rfl) ?_ (by assumption) ?_
                        rotate_left
                        · (intro w hSw; (try dsimp only at hSw); go_simp; first | done | with_reducible rfl)
                        try simp only [Act.put, List.setIfInBounds_toArray, List.set_cons_zero, List.set_cons_succ]
                        refine wpAnyH_ready (rs := [20]) (by kernel_rfl) (by simp) ?_
                        refine AllReadyH.cons rfl (fun K hK => ?_) AllReadyH.nil
                        go_simp
                        (refine (rel30.does x y wr.drew).mono ?_; rintro e wa ⟨rfl, ba⟩; have ba : Below wr.heap.size wr wa := ⟨ba.os, ba.tape, ba.output, ba.size, ba.block⟩)
                        go_wp2_with fail
                        refine hK.out _ _ ⟨(ba.cell (p := ⟨gl, ol + j, none⟩) ll).trans e0, (ba.cell (p := ⟨gl, ol + i, none⟩) ll).trans e1⟩ (fun hHeld => ?_)
                        clear hK K
                        try simp only [Act.put, List.setIfInBounds_toArray, List.set_cons_zero, List.set_cons_succ]
                        refine take_d (v := ?_) 21 88 rfl rfl (by kernel_rfl) (by kernel_rfl) (by kernel_rfl) (fun _ _ _ h => h) (by kernel_rfl) ?_ (by assumption) ?_
                        rotate_left
                        · (intro w hSw; (try dsimp only at hSw); go_simp; first | done | with_reducible rfl)
                        try simp only [Act.put, List.setIfInBounds_toArray, List.set_cons_zero, List.set_cons_succ]
                        refine take_d (v := ?_) 22 89 rfl rfl (by kernel_rfl) (by kernel_rfl) (by kernel_rfl) (fun _ _ _ h => h) (by kernel_rfl) ?_ (by assumption) ?_
                        rotate_left
                        · (intro w hSw; (try dsimp only at hSw); go_simp; first | done | with_reducible rfl)
                        try simp only [Act.put, List.setIfInBounds_toArray, List.set_cons_zero, List.set_cons_succ]
                        refine take_d (v := ?_) 23 90 rfl rfl (by kernel_rfl) (by kernel_rfl) (by kernel_rfl) (fun _ _ _ h => h) (by kernel_rfl) ?_ (by assumption) ?_
                        rotate_left
                        · (intro w hSw; (try dsimp only at hSw); go_simp; first | done | with_reducible rfl)
                        try simp only [Act.put, List.setIfInBounds_toArray, List.set_cons_zero, List.set_cons_succ]
                        refine take_d (v := ?_) 24 9 rfl rfl (by kernel_rfl) (by kernel_rfl) (by kernel_rfl) (fun _ _ _ h => h) (by kernel_rfl) ?_ (by assumption) ?_
                        rotate_left
                        · (intro w hSw; (try dsimp only at hSw); go_simp; first | done | with_reducible rfl)
                        try simp only [Act.put, List.setIfInBounds_toArray, List.set_cons_zero, List.set_cons_succ]
                        refine wpAnyH_done (by kernel_rfl) ?_ _
                        go_wp2_with fail
                        go_meet
                        exact ⟨by simp [he2], ba⟩
                  case rest =>
                  obtain ⟨rfl, b9⟩ := hcut
                  have HLB2 : Hid ((lb && (eqW x y || !ahd x y)) = (l.take (j + 1)).all (fun x => eqW x y || !ahd x y)) := Lib.hid (by rw [HT.out, List.all_append, ← HLB.out]; simp)
                  obtain ⟨lb2, hlb2⟩ : ∃ b, b = (lb && (eqW x y || !ahd x y)) := ⟨_, rfl⟩
                  rw [← hlb2] at HLB2 ⊢
                  have HB2 := Lib.hid (HB.out.trans (b9.mono HB.out.size))
                  have e0 := (b9.cell (p := ⟨gl, ol + j, none⟩) ll).trans e0
                  have e1 := (b9.cell (p := ⟨gl, ol + i, none⟩) ll).trans e1
                  clear hlb2 HLB HB b9
                  go_wp2_with fail
                  cases ag with
                  | true =>
                    have HAG2 : Hid (true = (l.take (min (j + 1) i)).any (fun x => eqW x y)) := Lib.hid (by
                      by_cases hji : j < i
                      · have h1 : min (j + 1) i = j + 1 := by omega
                        have h2 : min j i = j := by omega
                        have := HAG.out
                        rw [h2] at this
                        rw [h1, HT.out, List.any_append, ← this]; rfl
                      · have h1 : min (j + 1) i = min j i := by omega
                        rw [h1]; exact HAG.out)
                    refine wp_region_held_drew (S := fun w' => True) (by kernel_rfl) trivial (fun hHeld => ?_)
                    refine take_d (v := ?_) 0 91 rfl rfl (by kernel_rfl) (by kernel_rfl) (by kernel_rfl) (fun _ _ _ h => h) (by kernel_rfl) ?_ (by assumption) ?_
                    rotate_left
                    · (intro w hSw; (try dsimp only at hSw); go_simp; first | done | with_reducible rfl)
                    try simp only [Act.put, List.setIfInBounds_toArray, List.set_cons_zero, List.set_cons_succ]
                    refine take_d (v := ?_) 1 92 rfl rfl (by kernel_rfl) (by kernel_rfl) (by kernel_rfl) (fun _ _ _ h => h) (by kernel_rfl) ?_ (by assumption) ?_
                    rotate_left
                    · (intro w hSw; (try dsimp only at hSw); go_simp; first | done | with_reducible rfl)
                    try simp only [Act.put, List.setIfInBounds_toArray, List.set_cons_zero, List.set_cons_succ]
                    refine off_d 2 93 rfl rfl (by kernel_rfl) (by kernel_rfl) (by kernel_rfl) (fun _ _ _ h => h) (by kernel_rfl) (by assumption) ?_
                    try simp only [Act.put, List.setIfInBounds_toArray, List.set_cons_zero, List.set_cons_succ]
                    refine off_d 3 94 rfl rfl (by kernel_rfl) (by kernel_rfl) (by kernel_rfl) (fun _ _ _ h => h) (by kernel_rfl) (by assumption) ?_
                    try simp only [Act.put, List.setIfInBounds_toArray, List.set_cons_zero, List.set_cons_succ]
                    refine off_d 4 95 rfl rfl (by kernel_rfl) (by kernel_rfl) (by kernel_rfl) (fun _ _ _ h => h) (by kernel_rfl) (by assumption) ?_
                    try simp only [Act.put, List.setIfInBounds_toArray, List.set_cons_zero, List.set_cons_succ]
                    refine off_d 5 96 rfl rfl (by kernel_rfl) (by kernel_rfl) (by kernel_rfl) (fun _ _ _ h => h) (by kernel_rfl) (by assumption) ?_
                    try simp only [Act.put, List.setIfInBounds_toArray, List.set_cons_zero, List.set_cons_succ]
                    refine off_d 6 97 rfl rfl (by kernel_rfl) (by kernel_rfl) (by kernel_rfl) (fun _ _ _ h => h) (by kernel_rfl) (by assumption) ?_
                    try simp only [Act.put, List.setIfInBounds_toArray, List.set_cons_zero, List.set_cons_succ]
                    refine off_d 7 98 rfl rfl (by kernel_rfl) (by kernel_rfl) (by kernel_rfl) (fun _ _ _ h => h) (by kernel_rfl) (by assumption) ?_
                    try simp only [Act.put, List.setIfInBounds_toArray, List.set_cons_zero, List.set_cons_succ]
                    refine off_d 8 99 rfl rfl (by kernel_rfl) (by kernel_rfl) (by kernel_rfl) (fun _ _ _ h => h) (by kernel_rfl) (by assumption) ?_
                    try simp only [Act.put, List.setIfInBounds_toArray, List.set_cons_zero, List.set_cons_succ]
                    refine off_d 9 100 rfl rfl (by kernel_rfl) (by kernel_rfl) (by kernel_rfl) (fun _ _ _ h => h) (by kernel_rfl) (by assumption) ?_
                    try simp only [Act.put, List.setIfInBounds_toArray, List.set_cons_zero, List.set_cons_succ]
                    refine off_d 10 101 rfl rfl (by kernel_rfl) (by kernel_rfl) (by kernel_rfl) (fun _ _ _ h => h) (by kernel_rfl) (by assumption) ?_
                    try simp only [Act.put, List.setIfInBounds_toArray, List.set_cons_zero, List.set_cons_succ]
                    refine off_d 11 102 rfl rfl (by kernel_rfl) (by kernel_rfl) (by kernel_rfl) (fun _ _ _ h => h) (by kernel_rfl) (by assumption) ?_
                    try simp only [Act.put, List.setIfInBounds_toArray, List.set_cons_zero, List.set_cons_succ]
                    refine off_d 12 103 rfl rfl (by kernel_rfl) (by kernel_rfl) (by kernel_rfl) (fun _ _ _ h => h) (by kernel_rfl) (by assumption) ?_
                    try simp only [Act.put, List.setIfInBounds_toArray, List.set_cons_zero, List.set_cons_succ]
                    refine off_d 13 104 rfl rfl (by kernel_rfl) (by kernel_rfl) (by kernel_rfl) (fun _ _ _ h => h) (by kernel_rfl) (by assumption) ?_
                    try simp only [Act.put, List.setIfInBounds_toArray, List.set_cons_zero, List.set_cons_succ]
                    refine off_d 14 105 rfl rfl (by kernel_rfl) (by kernel_rfl) (by kernel_rfl) (fun _ _ _ h => h) (by kernel_rfl) (by assumption) ?_
                    try simp only [Act.put, List.setIfInBounds_toArray, List.set_cons_zero, List.set_cons_succ]
                    refine off_d 15 106 rfl rfl (by kernel_rfl) (by kernel_rfl) (by kernel_rfl) (fun _ _ _ h => h) (by kernel_rfl) (by assumption) ?_
                    try simp only [Act.put, List.setIfInBounds_toArray, List.set_cons_zero, List.set_cons_succ]
                    refine take_d (v := ?_) 16 107 rfl rfl (by kernel_rfl) (by kernel_rfl) (by kernel_rfl) (fun _ _ _ h => h) (by kernel_rfl) ?_ (by assumption) ?_
                    rotate_left
                    · (intro w hSw; (try dsimp only at hSw); go_simp; first | done | with_reducible rfl)
                    try simp only [Act.put, List.setIfInBounds_toArray, List.set_cons_zero, List.set_cons_succ]
                    refine take_d (v := ?_) 17 10 rfl rfl (by kernel_rfl) (by kernel_rfl) (by kernel_rfl) (fun _ _ _ h => h) (by kernel_rfl) ?_ (by assumption) ?_
                    rotate_left
                    · (intro w hSw; (try dsimp only at hSw); go_simp; first | done | with_reducible rfl)
                    try simp only [Act.put, List.setIfInBounds_toArray, List.set_cons_zero, List.set_cons_succ]
                    refine wpAnyH_done (by kernel_rfl) ?_ _
                    go_wp2_with fail
                    go_roundw
                    case rel => exact ⟨j + 1, lb2, true, rfl, rfl, by go_num, by omega, HLB2, HAG2, Lib.hid (HB2.out.trans ((Below.refl wc.heap.size wc).drew.mono HB2.out.size))⟩
                    case measure => simp [intOf]; omega
                  | false =>
                    by_cases hji : j < i
                    · have HAG2 : Hid (eqW x y = (l.take (min (j + 1) i)).any (fun x => eqW x y)) := Lib.hid (by
                        have h1 : min (j + 1) i = j + 1 := by omega
                        have h2 : min j i = j := by omega
                        have := HAG.out
                        rw [h2] at this
                        rw [h1, HT.out, List.any_append, ← this]; simp)
                      refine wp_region_held_drew (S := fun w' => w'.cell? ⟨gl, ol + j, none⟩ = some (.string x) ∧ w'.cell? ⟨gl, ol + i, none⟩ = some (.string y)) (by kernel_rfl) ⟨e0, e1⟩ (fun hHeld => ?_)
                      refine take_d (v := ?_) 0 91 rfl rfl (by kernel_rfl) (by kernel_rfl) (by kernel_rfl) (fun _ _ _ h => h) (by kernel_rfl) ?_ (by assumption) ?_
                      rotate_left
                      · (intro w hSw; (try dsimp only at hSw); go_simp; first | done | with_reducible rfl)
                      try simp only [Act.put, List.setIfInBounds_toArray, List.set_cons_zero, List.set_cons_succ]
                      refine take_d (v := ?_) 1 92 rfl rfl (by kernel_rfl) (by kernel_rfl) (by kernel_rfl) (fun _ _ _ h => h) (by kernel_rfl) ?_ (by assumption) ?_
                      rotate_left
                      · (intro w hSw; (try dsimp only at hSw); go_simp; first | done | with_reducible rfl)
                      try simp only [Act.put, List.setIfInBounds_toArray, List.set_cons_zero, List.set_cons_succ]
                      refine take_d (v := ?_) 2 93 rfl rfl (by kernel_rfl) (by kernel_rfl) (by kernel_rfl) (fun _ _ _ h => h) (by kernel_rfl) ?_ (by assumption) ?_
                      rotate_left
                      · (intro w hSw; (try dsimp only at hSw); go_simp; first | done | with_reducible rfl)
                      try simp only [Act.put, List.setIfInBounds_toArray, List.set_cons_zero, List.set_cons_succ]
                      refine take_d (v := ?_) 3 94 rfl rfl (by kernel_rfl) (by kernel_rfl) (by kernel_rfl) (fun _ _ _ h => h) (by kernel_rfl) ?_ (by assumption) ?_
                      rotate_left
                      · (intro w hSw; (try dsimp only at hSw); go_simp; first | done | with_reducible rfl)
                      try simp only [Act.put, List.setIfInBounds_toArray, List.set_cons_zero, List.set_cons_succ]
                      refine take_d (v := ?_) 4 95 rfl rfl (by kernel_rfl) (by kernel_rfl) (by kernel_rfl) (fun _ _ _ h => h) (by kernel_rfl) ?_ (by assumption) ?_
                      rotate_left
                      · (intro w hSw; (try dsimp only at hSw); go_simp; first | done | with_reducible rfl)
                      try simp only [Act.put, List.setIfInBounds_toArray, List.set_cons_zero, List.set_cons_succ]
                      refine take_d (v := ?_) 5 96 rfl rfl (by kernel_rfl) (by kernel_rfl) (by kernel_rfl) (fun _ _ _ h => h) (by kernel_rfl) ?_ (by assumption) ?_
                      rotate_left
                      · (intro w hSw; (try dsimp only at hSw); go_simp; first | done | with_reducible rfl)
                      try simp only [Act.put, List.setIfInBounds_toArray, List.set_cons_zero, List.set_cons_succ]
                      refine take_d (v := ?_) 6 97 rfl rfl (by kernel_rfl) (by kernel_rfl) (by kernel_rfl) (fun _ _ _ h => h) (by kernel_rfl) ?_ (by assumption) ?_
                      rotate_left
                      · (intro w hSw; (try dsimp only at hSw); go_simp; first | done | with_reducible rfl)
                      try simp only [Act.put, List.setIfInBounds_toArray, List.set_cons_zero, List.set_cons_succ]
                      refine take_d (v := ?_) 7 98 rfl rfl (by kernel_rfl) (by kernel_rfl) (by kernel_rfl) (fun _ _ _ h => h) (by kernel_rfl) ?_ (by assumption) ?_
                      rotate_left
                      · (intro w hSw; (try dsimp only at hSw); go_simp; first | done | with_reducible rfl)
                      try simp only [Act.put, List.setIfInBounds_toArray, List.set_cons_zero, List.set_cons_succ]
                      refine take_d (v := ?_) 8 99 rfl rfl (by kernel_rfl) (by kernel_rfl) (by kernel_rfl) (fun _ _ _ h => h) (by kernel_rfl) ?_ (by assumption) ?_
                      rotate_left
                      · (intro w hSw; (try dsimp only at hSw); go_simp; first | done | with_reducible rfl)
                      try simp only [Act.put, List.setIfInBounds_toArray, List.set_cons_zero, List.set_cons_succ]
                      refine take_d (v := ?_) 9 100 rfl rfl (by kernel_rfl) (by kernel_rfl) (by kernel_rfl) (fun _ _ _ h => h) (by kernel_rfl) ?_ (by assumption) ?_
                      rotate_left
                      · (intro w hSw; (try dsimp only at hSw); go_simp; first | done | with_reducible rfl)
                      try simp only [Act.put, List.setIfInBounds_toArray, List.set_cons_zero, List.set_cons_succ]
                      refine take_d (v := ?_) 10 101 rfl rfl (by kernel_rfl) (by kernel_rfl) (by kernel_rfl) (fun _ _ _ h => h) (by kernel_rfl) ?_ (by assumption) ?_
                      rotate_left
                      · (intro w hSw; (try dsimp only at hSw); go_simp; first | done | with_reducible rfl)
                      try simp only [Act.put, List.setIfInBounds_toArray, List.set_cons_zero, List.set_cons_succ]
                      refine take_d (v := ?_) 11 102 rfl rfl (by kernel_rfl) (by kernel_rfl) (by kernel_rfl) (fun _ _ _ h => h) (by kernel_rfl) ?_ (by assumption) ?_
                      rotate_left
                      · (intro w hSw; (try dsimp only at hSw); go_simp; first | done | with_reducible rfl)
                      try simp only [Act.put, List.setIfInBounds_toArray, List.set_cons_zero, List.set_cons_succ]
                      refine take_d (v := ?_) 12 103 rfl rfl (by kernel_rfl) (by kernel_rfl) (by kernel_rfl) (fun _ _ _ h => h) (by kernel_rfl) ?_ (by assumption) ?_
                      rotate_left
                      · (intro w hSw; (try dsimp only at hSw); go_simp; first | done | with_reducible rfl)
                      try simp only [Act.put, List.setIfInBounds_toArray, List.set_cons_zero, List.set_cons_succ]
                      refine take_d (v := ?_) 13 104 rfl rfl (by kernel_rfl) (by kernel_rfl) (by kernel_rfl) (fun _ _ _ h => h) (by kernel_rfl) ?_ (by assumption) ?_
                      rotate_left
                      · (intro w hSw; (try dsimp only at hSw); go_simp; first | done | with_reducible rfl)
                      try simp only [Act.put, List.setIfInBounds_toArray, List.set_cons_zero, List.set_cons_succ]
                      refine take_d (v := ?_) 14 105 rfl rfl (by kernel_rfl) (by kernel_rfl) (by kernel_rfl) (fun _ _ _ h => h) (by kernel_rfl) ?_ (by assumption) ?_
                      rotate_left
                      · (intro w hSw; (try dsimp only at hSw); go_simp; first | done | with_reducible rfl)
                      try simp only [Act.put, List.setIfInBounds_toArray, List.set_cons_zero, List.set_cons_succ]
                      refine take_d (v := ?_) 15 106 rfl rfl (by kernel_rfl) (by kernel_rfl) (by kernel_rfl) (fun _ _ _ h => h) (by kernel_rfl) ?_ (by assumption) ?_
                      rotate_left
                      · (intro w hSw; (try dsimp only at hSw); go_simp; first | done | with_reducible rfl)
                      try simp only [Act.put, List.setIfInBounds_toArray, List.set_cons_zero, List.set_cons_succ]
                      refine take_d (v := ?_) 16 107 rfl rfl (by kernel_rfl) (by kernel_rfl) (by kernel_rfl) (fun _ _ _ h => h) (by kernel_rfl) ?_ (by assumption) ?_
                      rotate_left
                      · (intro w hSw; (try dsimp only at hSw); go_simp; first | done | with_reducible rfl)
                      try simp only [Act.put, List.setIfInBounds_toArray, List.set_cons_zero, List.set_cons_succ]
                      refine take_d (v := ?_) 17 10 rfl rfl (by kernel_rfl) (by kernel_rfl) (by kernel_rfl) (fun _ _ _ h => h) (by kernel_rfl) ?_ (by assumption) ?_
                      rotate_left
                      · (intro w hSw; (try dsimp only at hSw); go_simp; first | done | with_reducible rfl)
                      try simp only [Act.put, List.setIfInBounds_toArray, List.set_cons_zero, List.set_cons_succ]
                      refine wpAnyH_done (by kernel_rfl) ?_ _
                      go_wp2_with fail
                      go_roundw
                      case rel => exact ⟨j + 1, lb2, eqW x y, rfl, by simp [eqW], by go_num, by omega, HLB2, HAG2, Lib.hid (HB2.out.trans ((Below.refl wc.heap.size wc).drew.mono HB2.out.size))⟩
                      case measure => simp [intOf]; omega
                    · have HAG2 : Hid (false = (l.take (min (j + 1) i)).any (fun x => eqW x y)) := Lib.hid (by
                        have h1 : min (j + 1) i = min j i := by omega
                        rw [h1]; exact HAG.out)
                      refine wp_region_held_drew (S := fun w' => True) (by kernel_rfl) trivial (fun hHeld => ?_)
                      refine take_d (v := ?_) 0 91 rfl rfl (by kernel_rfl) (by kernel_rfl) (by kernel_rfl) (fun _ _ _ h => h) (by kernel_rfl) ?_ (by assumption) ?_
                      rotate_left
                      · (intro w hSw; (try dsimp only at hSw); go_simp; first | done | with_reducible rfl)
                      try simp only [Act.put, List.setIfInBounds_toArray, List.set_cons_zero, List.set_cons_succ]
                      refine take_d (v := ?_) 1 92 rfl rfl (by kernel_rfl) (by kernel_rfl) (by kernel_rfl) (fun _ _ _ h => h) (by kernel_rfl) ?_ (by assumption) ?_
                      rotate_left
                      · (intro w hSw; (try dsimp only at hSw); go_simp; first | done | with_reducible rfl)
                      try simp only [Act.put, List.setIfInBounds_toArray, List.set_cons_zero, List.set_cons_succ]
                      refine take_d (v := ?_) 2 93 rfl rfl (by kernel_rfl) (by kernel_rfl) (by kernel_rfl) (fun _ _ _ h => h) (by kernel_rfl) ?_ (by assumption) ?_
                      rotate_left
                      · (intro w hSw; (try dsimp only at hSw); go_simp; first | done | with_reducible rfl)
                      try simp only [Act.put, List.setIfInBounds_toArray, List.set_cons_zero, List.set_cons_succ]
                      refine take_d (v := ?_) 3 94 rfl rfl (by kernel_rfl) (by kernel_rfl) (by kernel_rfl) (fun _ _ _ h => h) (by kernel_rfl) ?_ (by assumption) ?_
                      rotate_left
                      · (intro w hSw; (try dsimp only at hSw); go_simp; first | done | with_reducible rfl)
                      try simp only [Act.put, List.setIfInBounds_toArray, List.set_cons_zero, List.set_cons_succ]
                      refine take_d (v := ?_) 4 95 rfl rfl (by kernel_rfl) (by kernel_rfl) (by kernel_rfl) (fun _ _ _ h => h) (by kernel_rfl) ?_ (by assumption) ?_
                      rotate_left
                      · (intro w hSw; (try dsimp only at hSw); go_simp; first | done | with_reducible rfl)
                      try simp only [Act.put, List.setIfInBounds_toArray, List.set_cons_zero, List.set_cons_succ]
                      refine take_d (v := ?_) 5 96 rfl rfl (by kernel_rfl) (by kernel_rfl) (by kernel_rfl) (fun _ _ _ h => h) (by kernel_rfl) ?_ (by assumption) ?_
                      rotate_left
                      · (intro w hSw; (try dsimp only at hSw); go_simp; first | done | with_reducible rfl)
                      try simp only [Act.put, List.setIfInBounds_toArray, List.set_cons_zero, List.set_cons_succ]
                      refine off_d 6 97 rfl rfl (by kernel_rfl) (by kernel_rfl) (by kernel_rfl) (fun _ _ _ h => h) (by kernel_rfl) (by assumption) ?_
                      try simp only [Act.put, List.setIfInBounds_toArray, List.set_cons_zero, List.set_cons_succ]
                      refine off_d 7 98 rfl rfl (by kernel_rfl) (by kernel_rfl) (by kernel_rfl) (fun _ _ _ h => h) (by kernel_rfl) (by assumption) ?_
                      try simp only [Act.put, List.setIfInBounds_toArray, List.set_cons_zero, List.set_cons_succ]
                      refine off_d 8 99 rfl rfl (by kernel_rfl) (by kernel_rfl) (by kernel_rfl) (fun _ _ _ h => h) (by kernel_rfl) (by assumption) ?_
                      try simp only [Act.put, List.setIfInBounds_toArray, List.set_cons_zero, List.set_cons_succ]
                      refine off_d 9 100 rfl rfl (by kernel_rfl) (by kernel_rfl) (by kernel_rfl) (fun _ _ _ h => h) (by kernel_rfl) (by assumption) ?_
                      try simp only [Act.put, List.setIfInBounds_toArray, List.set_cons_zero, List.set_cons_succ]
                      refine off_d 10 101 rfl rfl (by kernel_rfl) (by kernel_rfl) (by kernel_rfl) (fun _ _ _ h => h) (by kernel_rfl) (by assumption) ?_
                      try simp only [Act.put, List.setIfInBounds_toArray, List.set_cons_zero, List.set_cons_succ]
                      refine off_d 11 102 rfl rfl (by kernel_rfl) (by kernel_rfl) (by kernel_rfl) (fun _ _ _ h => h) (by kernel_rfl) (by assumption) ?_
                      try simp only [Act.put, List.setIfInBounds_toArray, List.set_cons_zero, List.set_cons_succ]
                      refine off_d 12 103 rfl rfl (by kernel_rfl) (by kernel_rfl) (by kernel_rfl) (fun _ _ _ h => h) (by kernel_rfl) (by assumption) ?_
                      try simp only [Act.put, List.setIfInBounds_toArray, List.set_cons_zero, List.set_cons_succ]
                      refine off_d 13 104 rfl rfl (by kernel_rfl) (by kernel_rfl) (by kernel_rfl) (fun _ _ _ h => h) (by kernel_rfl) (by assumption) ?_
                      try simp only [Act.put, List.setIfInBounds_toArray, List.set_cons_zero, List.set_cons_succ]
                      refine off_d 14 105 rfl rfl (by kernel_rfl) (by kernel_rfl) (by kernel_rfl) (fun _ _ _ h => h) (by kernel_rfl) (by assumption) ?_
                      try simp only [Act.put, List.setIfInBounds_toArray, List.set_cons_zero, List.set_cons_succ]
                      refine take_d (v := ?_) 15 106 rfl rfl (by kernel_rfl) (by kernel_rfl) (by kernel_rfl) (fun _ _ _ h => h) (by kernel_rfl) ?_ (by assumption) ?_
                      rotate_left
                      · (intro w hSw; (try dsimp only at hSw); go_simp; first | done | with_reducible rfl)
                      try simp only [Act.put, List.setIfInBounds_toArray, List.set_cons_zero, List.set_cons_succ]
                      refine take_d (v := ?_) 16 107 rfl rfl (by kernel_rfl) (by kernel_rfl) (by kernel_rfl) (fun _ _ _ h => h) (by kernel_rfl) ?_ (by assumption) ?_
                      rotate_left
                      · (intro w hSw; (try dsimp only at hSw); go_simp; first | done | with_reducible rfl)
                      try simp only [Act.put, List.setIfInBounds_toArray, List.set_cons_zero, List.set_cons_succ]
                      refine take_d (v := ?_) 17 10 rfl rfl (by kernel_rfl) (by kernel_rfl) (by kernel_rfl) (fun _ _ _ h => h) (by kernel_rfl) ?_ (by assumption) ?_
                      rotate_left
                      · (intro w hSw; (try dsimp only at hSw); go_simp; first | done | with_reducible rfl)
                      try simp only [Act.put, List.setIfInBounds_toArray, List.set_cons_zero, List.set_cons_succ]
                      refine wpAnyH_done (by kernel_rfl) ?_ _
                      go_wp2_with fail
                      go_roundw
                      case rel => exact ⟨j + 1, lb2, false, rfl, rfl, by go_num, by omega, HLB2, HAG2, Lib.hid (HB2.out.trans ((Below.refl wc.heap.size wc).drew.mono HB2.out.size))⟩
                      case measure => simp [intOf]; omega
                · have hlb : lb = leastB l y := by
                    have hjq : j = n := by omega
                    rw [HLB.out, hjq, HN.out, List.take_length]; rfl
                  have hag : ag = againB l i y := by
                    have hjq : min j i = i := by omega
                    rw [HAG.out, hjq]; rfl
                  have hLM : L.any (fun x => eqW x y) = lb := by
                    rw [hlb, Bool.eq_iff_iff, List.any_eq_true, leastB_iff]
                    constructor
                    · rintro ⟨x, hx, h⟩
                      rw [(eqW_iff _ _).1 h] at hx
                      exact ((HG.out.mem y).1 hx).2
                    · intro h
                      exact ⟨y, (HG.out.mem y).2 ⟨by rw [HY.out]; exact List.getElem_mem hil, h⟩, (eqW_iff y y).2 rfl⟩
                  have hcov : L.any (fun z => ahd z (y ++ ⟨#[120]⟩)) = true := by
                    obtain ⟨z, hz1, hz2⟩ := HG.out.cover y (by rw [HY.out]; exact List.getElem_mem hil)
                    refine List.any_eq_true.2 ⟨z, hz1, (ahd_iff _ _).2 (((ahd_iff _ _).1 hz2).trans ?_)⟩
                    rw [tl, tl, Joins.data_append]
                    exact List.prefix_append _ _
                  have HLBQ := Lib.hid hlb
                  have HAGQ := Lib.hid hag
                  have HLM := Lib.hid hLM
                  have HCOV := Lib.hid hcov
                  have hFS : Hid ((firsts l (i + 1)).length = (firsts l i).length + (if (lb && !ag) = true then 1 else 0)) := Lib.hid (by
                    have e : l[i]? = some y := by rw [HY.out]; exact List.getElem?_eq_getElem hil
                    simp only [firsts, e]
                    rw [← hlb, ← hag]
                    split
                    · simp
                    · simp)
                  clear hlb hag hLM hcov HLB HAG
                  go_wp2_with fail
                  go_loopw [12, 13] (fun s12 s13 wr => ∃ (j : Nat) (inn : Bool), s12 = .bool inn ∧ s13 = .int .i64 j ∧ j ≤ k ∧ Hid (inn = (L.take j).any (fun x => eqW x y)) ∧ Hid (Below w11.heap.size w11 wr)) (fun _ s13 _ => k - (intOf s13).toNat)
                  case atStart => exact ⟨0, false, rfl, rfl, by omega, Lib.hid (by simp), HB⟩
                  case round =>
                    clear HB
                    obtain ⟨j, inn, rfl, rfl, hj, HI, HB⟩ := hrel
                    have e1 := hcy.out _ HB.out
                    by_cases hjk : j < k
                    · obtain ⟨gq, rfl, hkk, hkm, hgq⟩ := hform.out (by omega)
                      unfold maxLen at hkm
                      have hjL : j < L.length := by rw [← HK.out]; exact hjk
                      have e0 := Own.at_ (own_below HO.out HB.out) j hjL
                      have htk : L.take (j + 1) = L.take j ++ [L[j]] := List.take_succ_eq_append_getElem hjL
                      obtain ⟨x, hx⟩ : ∃ x, x = L[j] := ⟨_, rfl⟩
                      rw [← hx] at e0 htk
                      have HT := Lib.hid htk
                      clear hx htk
                      go_upto_region 29 with fail
                      cases inn with
                      | true =>
                        have HI2 : Hid (true = (L.take (j + 1)).any (fun x => eqW x y)) := Lib.hid (by rw [HT.out, List.any_append, ← HI.out]; simp)
                        refine wp_region_held_drew (S := fun w' => True) (by kernel_rfl) trivial (fun hHeld => ?_)
                        refine take_d (v := ?_) 0 114 rfl rfl (by kernel_rfl) (by kernel_rfl) (by kernel_rfl) (fun _ _ _ h => h) (by kernel_rfl) ?_ (by assumption) ?_
                        rotate_left
                        · (intro w hSw; (try dsimp only at hSw); go_simp; first | done | with_reducible rfl)
                        try simp only [Act.put, List.setIfInBounds_toArray, List.set_cons_zero, List.set_cons_succ]
                        refine take_d (v := ?_) 1 115 rfl rfl (by kernel_rfl) (by kernel_rfl) (by kernel_rfl) (fun _ _ _ h => h) (by kernel_rfl) ?_ (by assumption) ?_
                        rotate_left
                        · (intro w hSw; (try dsimp only at hSw); go_simp; first | done | with_reducible rfl)
                        try simp only [Act.put, List.setIfInBounds_toArray, List.set_cons_zero, List.set_cons_succ]
                        refine off_d 2 116 rfl rfl (by kernel_rfl) (by kernel_rfl) (by kernel_rfl) (fun _ _ _ h => h) (by kernel_rfl) (by assumption) ?_
                        try simp only [Act.put, List.setIfInBounds_toArray, List.set_cons_zero, List.set_cons_succ]
                        refine off_d 3 117 rfl rfl (by kernel_rfl) (by kernel_rfl) (by kernel_rfl) (fun _ _ _ h => h) (by kernel_rfl) (by assumption) ?_
                        try simp only [Act.put, List.setIfInBounds_toArray, List.set_cons_zero, List.set_cons_succ]
                        refine off_d 4 118 rfl rfl (by kernel_rfl) (by kernel_rfl) (by kernel_rfl) (fun _ _ _ h => h) (by kernel_rfl) (by assumption) ?_
                        try simp only [Act.put, List.setIfInBounds_toArray, List.set_cons_zero, List.set_cons_succ]
                        refine off_d 5 119 rfl rfl (by kernel_rfl) (by kernel_rfl) (by kernel_rfl) (fun _ _ _ h => h) (by kernel_rfl) (by assumption) ?_
                        try simp only [Act.put, List.setIfInBounds_toArray, List.set_cons_zero, List.set_cons_succ]
                        refine off_d 6 120 rfl rfl (by kernel_rfl) (by kernel_rfl) (by kernel_rfl) (fun _ _ _ h => h) (by kernel_rfl) (by assumption) ?_
                        try simp only [Act.put, List.setIfInBounds_toArray, List.set_cons_zero, List.set_cons_succ]
                        refine off_d 7 121 rfl rfl (by kernel_rfl) (by kernel_rfl) (by kernel_rfl) (fun _ _ _ h => h) (by kernel_rfl) (by assumption) ?_
                        try simp only [Act.put, List.setIfInBounds_toArray, List.set_cons_zero, List.set_cons_succ]
                        refine off_d 8 122 rfl rfl (by kernel_rfl) (by kernel_rfl) (by kernel_rfl) (fun _ _ _ h => h) (by kernel_rfl) (by assumption) ?_
                        try simp only [Act.put, List.setIfInBounds_toArray, List.set_cons_zero, List.set_cons_succ]
                        refine off_d 9 123 rfl rfl (by kernel_rfl) (by kernel_rfl) (by kernel_rfl) (fun _ _ _ h => h) (by kernel_rfl) (by assumption) ?_
                        try simp only [Act.put, List.setIfInBounds_toArray, List.set_cons_zero, List.set_cons_succ]
                        refine off_d 10 124 rfl rfl (by kernel_rfl) (by kernel_rfl) (by kernel_rfl) (fun _ _ _ h => h) (by kernel_rfl) (by assumption) ?_
                        try simp only [Act.put, List.setIfInBounds_toArray, List.set_cons_zero, List.set_cons_succ]
                        refine take_d (v := ?_) 11 125 rfl rfl (by kernel_rfl) (by kernel_rfl) (by kernel_rfl) (fun _ _ _ h => h) (by kernel_rfl) ?_ (by assumption) ?_
                        rotate_left
                        · (intro w hSw; (try dsimp only at hSw); go_simp; first | done | with_reducible rfl)
                        try simp only [Act.put, List.setIfInBounds_toArray, List.set_cons_zero, List.set_cons_succ]
                        refine take_d (v := ?_) 12 12 rfl rfl (by kernel_rfl) (by kernel_rfl) (by kernel_rfl) (fun _ _ _ h => h) (by kernel_rfl) ?_ (by assumption) ?_
                        rotate_left
                        · (intro w hSw; (try dsimp only at hSw); go_simp; first | done | with_reducible rfl)
                        try simp only [Act.put, List.setIfInBounds_toArray, List.set_cons_zero, List.set_cons_succ]
                        refine wpAnyH_done (by kernel_rfl) ?_ _
                        go_wp2_with fail
                        go_roundw
                        case rel => exact ⟨j + 1, true, rfl, by go_num, by omega, HI2, Lib.hid (HB.out.trans ((Below.refl wr.heap.size wr).drew.mono HB.out.size))⟩
                        case measure => simp [intOf]; omega
                      | false =>
                        have HI2 : Hid (eqW x y = (L.take (j + 1)).any (fun x => eqW x y)) := Lib.hid (by rw [HT.out, List.any_append, ← HI.out]; simp)
                        refine wp_region_held_drew (S := fun w' => w'.cell? ⟨gq, j, none⟩ = some (.string x) ∧ w'.cell? ⟨gl, ol + i, none⟩ = some (.string y)) (by kernel_rfl) ⟨e0, e1⟩ (fun hHeld => ?_)
                        refine take_d (v := ?_) 0 114 rfl rfl (by kernel_rfl) (by kernel_rfl) (by kernel_rfl) (fun _ _ _ h => h) (by kernel_rfl) ?_ (by assumption) ?_
                        rotate_left
                        · (intro w hSw; (try dsimp only at hSw); go_simp; first | done | with_reducible rfl)
                        try simp only [Act.put, List.setIfInBounds_toArray, List.set_cons_zero, List.set_cons_succ]
                        refine take_d (v := ?_) 1 115 rfl rfl (by kernel_rfl) (by kernel_rfl) (by kernel_rfl) (fun _ _ _ h => h) (by kernel_rfl) ?_ (by assumption) ?_
                        rotate_left
                        · (intro w hSw; (try dsimp only at hSw); go_simp; first | done | with_reducible rfl)
                        try simp only [Act.put, List.setIfInBounds_toArray, List.set_cons_zero, List.set_cons_succ]
                        refine take_d (v := ?_) 2 116 rfl rfl (by kernel_rfl) (by kernel_rfl) (by kernel_rfl) (fun _ _ _ h => h) (by kernel_rfl) ?_ (by assumption) ?_
                        rotate_left
                        · (intro w hSw; (try dsimp only at hSw); go_simp; first | done | with_reducible rfl)
                        try simp only [Act.put, List.setIfInBounds_toArray, List.set_cons_zero, List.set_cons_succ]
                        refine take_d (v := ?_) 3 117 rfl rfl (by kernel_rfl) (by kernel_rfl) (by kernel_rfl) (fun _ _ _ h => h) (by kernel_rfl) ?_ (by assumption) ?_
                        rotate_left
                        · (intro w hSw; (try dsimp only at hSw); go_simp; first | done | with_reducible rfl)
                        try simp only [Act.put, List.setIfInBounds_toArray, List.set_cons_zero, List.set_cons_succ]
                        refine take_d (v := ?_) 4 118 rfl rfl (by kernel_rfl) (by kernel_rfl) (by kernel_rfl) (fun _ _ _ h => h) (by kernel_rfl) ?_ (by assumption) ?_
                        rotate_left
                        · (intro w hSw; (try dsimp only at hSw); go_simp; first | done | with_reducible rfl)
                        try simp only [Act.put, List.setIfInBounds_toArray, List.set_cons_zero, List.set_cons_succ]
                        refine take_d (v := ?_) 5 119 rfl rfl (by kernel_rfl) (by kernel_rfl) (by kernel_rfl) (fun _ _ _ h => h) (by kernel_rfl) ?_ (by assumption) ?_
                        rotate_left
                        · (intro w hSw; (try dsimp only at hSw); go_simp; first | done | with_reducible rfl)
                        try simp only [Act.put, List.setIfInBounds_toArray, List.set_cons_zero, List.set_cons_succ]
                        refine take_d (v := ?_) 6 120 rfl rfl (by kernel_rfl) (by kernel_rfl) (by kernel_rfl) (fun _ _ _ h => h) (by kernel_rfl) ?_ (by assumption) ?_
                        rotate_left
                        · (intro w hSw; (try dsimp only at hSw); go_simp; first | done | with_reducible rfl)
                        try simp only [Act.put, List.setIfInBounds_toArray, List.set_cons_zero, List.set_cons_succ]
                        refine take_d (v := ?_) 7 121 rfl rfl (by kernel_rfl) (by kernel_rfl) (by kernel_rfl) (fun _ _ _ h => h) (by kernel_rfl) ?_ (by assumption) ?_
                        rotate_left
                        · (intro w hSw; (try dsimp only at hSw); go_simp; first | done | with_reducible rfl)
                        try simp only [Act.put, List.setIfInBounds_toArray, List.set_cons_zero, List.set_cons_succ]
                        refine take_d (v := ?_) 8 122 rfl rfl (by kernel_rfl) (by kernel_rfl) (by kernel_rfl) (fun _ _ _ h => h) (by kernel_rfl) ?_ (by assumption) ?_
                        rotate_left
                        · (intro w hSw; (try dsimp only at hSw); go_simp; first | done | with_reducible rfl)
                        try simp only [Act.put, List.setIfInBounds_toArray, List.set_cons_zero, List.set_cons_succ]
                        refine take_d (v := ?_) 9 123 rfl rfl (by kernel_rfl) (by kernel_rfl) (by kernel_rfl) (fun _ _ _ h => h) (by kernel_rfl) ?_ (by assumption) ?_
                        rotate_left
                        · (intro w hSw; (try dsimp only at hSw); go_simp; first | done | with_reducible rfl)
                        try simp only [Act.put, List.setIfInBounds_toArray, List.set_cons_zero, List.set_cons_succ]
                        refine take_d (v := ?_) 10 124 rfl rfl (by kernel_rfl) (by kernel_rfl) (by kernel_rfl) (fun _ _ _ h => h) (by kernel_rfl) ?_ (by assumption) ?_
                        rotate_left
                        · (intro w hSw; (try dsimp only at hSw); go_simp; first | done | with_reducible rfl)
                        try simp only [Act.put, List.setIfInBounds_toArray, List.set_cons_zero, List.set_cons_succ]
                        refine take_d (v := ?_) 11 125 rfl rfl (by kernel_rfl) (by kernel_rfl) (by kernel_rfl) (fun _ _ _ h => h) (by kernel_rfl) ?_ (by assumption) ?_
                        rotate_left
                        · (intro w hSw; (try dsimp only at hSw); go_simp; first | done | with_reducible rfl)
                        try simp only [Act.put, List.setIfInBounds_toArray, List.set_cons_zero, List.set_cons_succ]
                        refine take_d (v := ?_) 12 12 rfl rfl (by kernel_rfl) (by kernel_rfl) (by kernel_rfl) (fun _ _ _ h => h) (by kernel_rfl) ?_ (by assumption) ?_
                        rotate_left
                        · (intro w hSw; (try dsimp only at hSw); go_simp; first | done | with_reducible rfl)
                        try simp only [Act.put, List.setIfInBounds_toArray, List.set_cons_zero, List.set_cons_succ]
                        refine wpAnyH_done (by kernel_rfl) ?_ _
                        go_wp2_with fail
                        go_roundw
                        case rel => exact ⟨j + 1, eqW x y, by simp [eqW], by go_num, by omega, HI2, Lib.hid (HB.out.trans ((Below.refl wr.heap.size wr).drew.mono HB.out.size))⟩
                        case measure => simp [intOf]; omega
                    · have hinn : inn = lb := by
                        have hjq : j = k := by omega
                        rw [← HLM.out, HI.out, hjq, HK.out, List.take_length]
                      subst hinn
                      have hC := Lib.hid (H11.out.below HB.out)
                      have hy1 : (y.size : Int) + 1 ≤ 9223372036854775807 := by omega
                      have hy2 : y.size + 1 ≤ 9223372036854775807 := by omega
                      have hy3 : y.size + (ByteArray.mk #[120]).size ≤ 9223372036854775807 := hy2
                      obtain ⟨yx, hyx⟩ : ∃ yx, yx = y ++ ⟨#[120]⟩ := ⟨_, rfl⟩
                      have hcv2 : L.any (fun z => ahd z yx) = true := by rw [hyx]; exact HCOV.out
                      have HCV2 := Lib.hid hcv2
                      have hyx2 := hyx.symm
                      clear hyx hcv2
                      have hFS2 := Lib.hid hFS
                      clear HI
                      cases inn <;> cases ag
                      · have hq2 : q = (firsts l (i + 1)).length := by
                          have h1 := hFS.out
                          have h2 := HQ.out
                          simp only [Bool.false_and, Bool.true_and, Bool.not_true, Bool.not_false, if_true, Bool.false_eq_true, if_false] at h1
                          omega
                        have HQ2 := Lib.hid hq2
                        clear hq2
                        go_wp2_with (go_at_call 34; refine (covers_to rel30 hC.out yx HCV2.out).mono ?_; rintro e w15 ⟨rfl, b15⟩)
                        refine ⟨?_, ?_⟩
                        · exact ⟨i + 1, q, rfl, by go_num, by omega, by omega, HQ2, Lib.hid (HB.out.trans (b15.mono HB.out.size))⟩
                        · simp [intOf]; omega
                      · have hq2 : q = (firsts l (i + 1)).length := by
                          have h1 := hFS.out
                          have h2 := HQ.out
                          simp only [Bool.false_and, Bool.true_and, Bool.not_true, Bool.not_false, if_true, Bool.false_eq_true, if_false] at h1
                          omega
                        have HQ2 := Lib.hid hq2
                        clear hq2
                        go_wp2_with (go_at_call 34; refine (covers_to rel30 hC.out yx HCV2.out).mono ?_; rintro e w15 ⟨rfl, b15⟩)
                        refine ⟨?_, ?_⟩
                        · exact ⟨i + 1, q, rfl, by go_num, by omega, by omega, HQ2, Lib.hid (HB.out.trans (b15.mono HB.out.size))⟩
                        · simp [intOf]; omega
                      · have hq2 : q + 1 = (firsts l (i + 1)).length := by
                          have h1 := hFS.out
                          have h2 := HQ.out
                          simp only [Bool.false_and, Bool.true_and, Bool.not_true, Bool.not_false, if_true, Bool.false_eq_true, if_false] at h1
                          omega
                        have HQ2 := Lib.hid hq2
                        clear hq2
                        go_wp2_with (go_at_call 34; refine (covers_to rel30 hC.out yx HCV2.out).mono ?_; rintro e w15 ⟨rfl, b15⟩)
                        refine ⟨?_, ?_⟩
                        · exact ⟨i + 1, q + 1, by go_num, by go_num, by omega, by omega, HQ2, Lib.hid (HB.out.trans (b15.mono HB.out.size))⟩
                        · simp [intOf]; omega
                      · have hq2 : q = (firsts l (i + 1)).length := by
                          have h1 := hFS.out
                          have h2 := HQ.out
                          simp only [Bool.false_and, Bool.true_and, Bool.not_true, Bool.not_false, if_true, Bool.false_eq_true, if_false] at h1
                          omega
                        have HQ2 := Lib.hid hq2
                        clear hq2
                        go_wp2_with (go_at_call 34; refine (covers_to rel30 hC.out yx HCV2.out).mono ?_; rintro e w15 ⟨rfl, b15⟩)
                        refine ⟨?_, ?_⟩
                        · exact ⟨i + 1, q, rfl, by go_num, by omega, by omega, HQ2, Lib.hid (HB.out.trans (b15.mono HB.out.size))⟩
                        · simp [intOf]; omega
            · have hqk : q = k := by
                have hiq : i = l.length := by have := HN.out; omega
                rw [HQ.out, HK.out, hiq]
                exact firsts_len HG.out
              subst hqk
              have hC := Lib.hid (H11.out.below HB.out)
              go_wp2_with (go_at_call 35; refine (len_n hC.out HK).mono ?_; rintro e w15 ⟨rfl, b15⟩)
              go_ret
              exact ⟨by simp, st11 (HB.out.trans (b15.mono HB.out.size))⟩
end CS
end Go.Proofs.Ythchppnfffllnaa
