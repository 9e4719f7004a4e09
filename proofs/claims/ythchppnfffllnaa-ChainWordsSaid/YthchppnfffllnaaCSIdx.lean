/- IndexFunc, ContainsFunc by a function value that reads; the closures of Covers, Insert, Cut. -/
import Derived.Test.YthchppnfffllnaaCSDef
set_option linter.unusedVariables false
set_option linter.unusedSimpArgs false
namespace Go.Proofs.Ythchppnfffllnaa
open Go.RowKit PChainScript
namespace CS
/-- One operation of a region taken first, its slot named. -/
theorem take_d {P : Program} {ops : Array Oper} {Q : Exit → Act → World → Prop} {md : Region.Mode} {S : World → Prop} (i d : Nat) {oi : Oper} {v : Value} {fuel : Nat} {listed : Array Bool} {a : Act} {w : World} (hi : ops[i]? = some oi) (hd : oi.dst = some d)
    (hs : Region.noSelect ops = true) (hf : Region.free md ops listed i = true) (hr : (Region.ready md ops listed).contains i = true)
    (hQ : ∀ c a w, Q (.panic c) (a.put (some d) v) w → Q (.panic c) a w) (hw : Region.wanted oi (yielded ops a.tmps) = true) (hy : ∀ w, S w → (execOp a.eval oi).run P w = .ok (.value v) w) (hS : S w)
    (h : wpAnyH P md ops Q S fuel (listed.setIfInBounds i true) (a.put (some d) v) w) : wpAnyH P md ops Q S (fuel + 1) listed a w := by
  refine wpAnyH_take hi hs hf hr ?_ (Or.inl ⟨hw, hy⟩) hS ?_
  · rw [hd]; exact hQ
  · rw [hd]; exact h
/-- One operation of a region that its guard passes over. -/
theorem off_d {P : Program} {ops : Array Oper} {Q : Exit → Act → World → Prop} {md : Region.Mode} {S : World → Prop} (i d : Nat) {oi : Oper} {fuel : Nat} {listed : Array Bool} {a : Act} {w : World} (hi : ops[i]? = some oi) (hd : oi.dst = some d)
    (hs : Region.noSelect ops = true) (hf : Region.free md ops listed i = true) (hr : (Region.ready md ops listed).contains i = true)
    (hQ : ∀ c a w, Q (.panic c) (a.put (some d) undef) w → Q (.panic c) a w) (hw : Region.wanted oi (yielded ops a.tmps) = false) (hS : S w)
    (h : wpAnyH P md ops Q S fuel (listed.setIfInBounds i true) (a.put (some d) undef) w) : wpAnyH P md ops Q S (fuel + 1) listed a w := by
  refine wpAnyH_take hi hs hf hr ?_ (Or.inr ⟨hw, rfl⟩) hS ?_
  · rw [hd]; exact hQ
  · rw [hd]; exact h
/-- A function value of one element, with two things that it holds: what it answers wherever I is so. -/
structure Pred (k : Nat) (c1 c2 : Value) (I : World → Prop) (p : ByteArray → Bool) : Prop where
  call : ∀ args W, Sem.run Try.prog (callFunc k args) W = .ok (.enter k args) W
  does : ∀ (x : ByteArray) (W : World), I W → Calls Try.prog k #[vt x, c1, c2] W fun e w' => e = .returned (.bool (p x)) ∧ Below W.heap.size W w'
set_option maxRecDepth 100000 in
set_option maxHeartbeats 2000000 in
theorem idx_c {k : Nat} {c1 c2 : Value} {I : World → Prop} {p : ByteArray → Bool} (hp : Pred k c1 c2 I p) (hI : ∀ W W', I W → Below W.heap.size W W' → I W')
    {B : Nat} {w : World} {a : Option Addr} {n c : Nat} {l : List ByteArray} (ho : Own B w (.slice a n c) n l) (h0 : I w) :
    Calls Try.prog 57 #[.slice a n c, .func (.func k) #[] #[c1, c2]] w fun e w' => e = .returned (.int .i64 (idxI p l)) ∧ Below w.heap.size w w' := by
  have HN := Lib.hid ho.len
  have hcall := hp.call
  have ha : Hid (0 < n → ∃ g, a = some ⟨g, 0, none⟩ ∧ n ≤ c ∧ c ≤ maxLen) := Lib.hid (fun h => by
    obtain ⟨g, c', h1, _, _, h2, h3⟩ := ho.form h
    injection h1 with h1 h4 h5
    subst h5
    exact ⟨g, h1, h2, h3⟩)
  have HO := Lib.hid ho
  have HI := Lib.hid h0
  have HP := Lib.hid hp
  clear ho h0 hp
  go_enter Try.func57, Try.ntmps57
  go_wp2_with fail
  go_loopw [8] (fun s8 wr => ∃ i : Nat, s8 = .int .i64 i ∧ i ≤ n ∧ Hid (∀ j (hj : j < i) (hl : j < l.length), p l[j] = false) ∧ Hid (Below w.heap.size w wr)) (fun s8 _ => n - (intOf s8).toNat)
  case atStart => exact ⟨0, rfl, by omega, Lib.hid (fun j hj => absurd hj (by omega)), Lib.hid (Below.refl _ _)⟩
  case round =>
    obtain ⟨i, rfl, hi, HF, HB⟩ := hrel
    by_cases hlt : i < n
    · obtain ⟨g, rfl, hnc, hm⟩ := ha.out (by omega)
      unfold maxLen at hm
      have hil : i < l.length := by rw [← HN.out]; exact hlt
      obtain q0 := Own.at_ (own_below HO.out HB.out) i hil
      have hI1 := Lib.hid (hI _ _ HI.out HB.out)
      obtain ⟨x, hx⟩ : ∃ x, x = l[i] := ⟨_, rfl⟩
      rw [← hx] at q0
      cases hpx : p x with
      | true =>
        have HX := Lib.hid hx
        have HPX := Lib.hid hpx
        clear hx hpx
        have hd := HP.out.does x wr hI1.out
        skip
        go_wp2_with (refine hd.mono ?_; rintro e w2 ⟨rfl, b2⟩; rw [HPX.out])
        go_ret
        have HX2 := HX.out
        exact ⟨by rw [idxI_at hil (by rw [← HX2]; exact HPX.out) (fun j hj => HF.out j hj (by omega))]; rfl, HB.out.trans (b2.mono HB.out.size)⟩
      | false =>
        have HX := Lib.hid hx
        have HPX := Lib.hid hpx
        clear hx hpx
        have hd := HP.out.does x wr hI1.out
        skip
        go_wp2_with (refine hd.mono ?_; rintro e w2 ⟨rfl, b2⟩; rw [HPX.out])
        go_roundw
        case rel => exact ⟨i + 1, by go_num, by omega, Lib.hid (fun j hj hl => by
          by_cases e : j = i
          · subst e; have HX2 := HX.out; rw [← HX2]; exact HPX.out
          · exact HF.out j (by omega) hl), Lib.hid (HB.out.trans (b2.mono HB.out.size))⟩
        case measure => simp [intOf]; omega
    · go_wp2_with fail
      go_ret
      exact ⟨by rw [idxI_no (fun j hj => HF.out j (by have := HN.out; omega) hj)]; rfl, HB.out⟩
set_option maxHeartbeats 1000000 in
theorem cont_c {k : Nat} {c1 c2 : Value} {I : World → Prop} {p : ByteArray → Bool} (hp : Pred k c1 c2 I p) (hI : ∀ W W', I W → Below W.heap.size W W' → I W')
    {B : Nat} {w : World} {a : Option Addr} {n c : Nat} {l : List ByteArray} (ho : Own B w (.slice a n c) n l) (h0 : I w) :
    Calls Try.prog 60 #[.slice a n c, .func (.func k) #[] #[c1, c2]] w fun e w' => e = .returned (.bool (l.any p)) ∧ Below w.heap.size w w' := by
  have hg := idxI_ge p l
  obtain ⟨z, hz⟩ : ∃ z, z = idxI p l := ⟨_, rfl⟩
  rw [← hz] at hg
  have HZ := Lib.hid hz
  clear hz
  have hh := idx_c hp hI ho h0
  rw [← HZ.out] at hh
  go_enter Try.func60, Try.ntmps60
  go_wp2_with (go_at_call 57; refine hh.mono ?_; rintro e w2 ⟨rfl, b2⟩)
  go_ret
  exact ⟨by simp [← hg], b2⟩

/-- What the closure of cov reads: the box of the chain's pointer, the box of the element, the chain's function. -/
def I_cov (pc pv hb : Nat) (f : Nat) (v : ByteArray) (W : World) : Prop := W.cell? ⟨pc, 0, none⟩ = some (.pointer (some ⟨hb, 0, none⟩)) ∧ W.cell? ⟨pv, 0, none⟩ = some (.string v) ∧ W.cell? ⟨hb, 0, none⟩ = some (.func (.func f) #[] #[])
set_option maxRecDepth 100000 in
set_option maxHeartbeats 2000000 in
theorem cov_p {f : Nat} {r : ByteArray → ByteArray → Bool} (hr : Rel f r) (pc pv hb : Nat) (v : ByteArray) : Pred 61 (.pointer (some ⟨pc, 0, none⟩)) (.pointer (some ⟨pv, 0, none⟩)) (I_cov pc pv hb f v) (fun x => r x v) := by
  refine ⟨fun args W => by go_simp, fun x W hW => ?_⟩
  obtain ⟨h0, h10, h2⟩ := hW
  have hcall := hr.call
  have hd := hr.does
  skip
  skip
  go_enter Try.func61, Try.ntmps61
  have lt0 := World.block_lt_of_cell? W _ h0
  have lt1 := World.block_lt_of_cell? W _ h10
  have lt2 := World.block_lt_of_cell? W _ h2
  simp only at lt0 lt1 lt2
  go_upto_region 1 with fail
  refine wp_region_held_drew (S := fun w' => w'.cell? ⟨pc, 0, none⟩ = some (.pointer (some ⟨hb, 0, none⟩)) ∧ w'.cell? ⟨pv, 0, none⟩ = some (.string v) ∧ w'.cell? ⟨hb, 0, none⟩ = some (.func (.func f) #[] #[])) (by kernel_rfl) ⟨h0, h10, h2⟩ (fun hHeld => ?_)
  refine take_d (v := ?_) 0 5 rfl rfl (by kernel_rfl) (by kernel_rfl) (by kernel_rfl) (fun _ _ _ h => h) (by kernel_rfl) ?_ (by assumption) ?_
  rotate_left
  · (intro w hSw; (try dsimp only at hSw); go_simp; first | done | with_reducible rfl)
  try simp only [Act.put, List.setIfInBounds_toArray, List.set_cons_zero, List.set_cons_succ]
  refine take_d (v := ?_) 1 6 rfl rfl (by kernel_rfl) (by kernel_rfl) (by kernel_rfl) (fun _ _ _ h => h) (by kernel_rfl) ?_ (by assumption) ?_
  rotate_left
  · (intro w hSw; (try dsimp only at hSw); go_simp; first | done | with_reducible rfl)
  try simp only [Act.put, List.setIfInBounds_toArray, List.set_cons_zero, List.set_cons_succ]
  refine take_d (v := ?_) 2 7 rfl rfl (by kernel_rfl) (by kernel_rfl) (by kernel_rfl) (fun _ _ _ h => h) (by kernel_rfl) ?_ (by assumption) ?_
  rotate_left
  · (intro w hSw; (try dsimp only at hSw); go_simp; first | done | with_reducible rfl)
  try simp only [Act.put, List.setIfInBounds_toArray, List.set_cons_zero, List.set_cons_succ]
  refine take_d (v := ?_) 3 8 rfl rfl (by kernel_rfl) (by kernel_rfl) (by kernel_rfl) (fun _ _ _ h => h) (by kernel_rfl) ?_ (by assumption) ?_
  rotate_left
  · (intro w hSw; (try dsimp only at hSw); go_simp; first | done | with_reducible rfl)
  try simp only [Act.put, List.setIfInBounds_toArray, List.set_cons_zero, List.set_cons_succ]
  refine take_d (v := ?_) 4 9 rfl rfl (by kernel_rfl) (by kernel_rfl) (by kernel_rfl) (fun _ _ _ h => h) (by kernel_rfl) ?_ (by assumption) ?_
  rotate_left
  · (intro w hSw; (try dsimp only at hSw); go_simp; first | done | with_reducible rfl)
  try simp only [Act.put, List.setIfInBounds_toArray, List.set_cons_zero, List.set_cons_succ]
  refine take_d (v := ?_) 5 10 rfl rfl (by kernel_rfl) (by kernel_rfl) (by kernel_rfl) (fun _ _ _ h => h) (by kernel_rfl) ?_ (by assumption) ?_
  rotate_left
  · (intro w hSw; (try dsimp only at hSw); go_simp; first | done | with_reducible rfl)
  try simp only [Act.put, List.setIfInBounds_toArray, List.set_cons_zero, List.set_cons_succ]
  refine wpAnyH_ready (rs := [6]) (by kernel_rfl) (by simp) ?_
  refine AllReadyH.cons rfl (fun K hK => ?_) AllReadyH.nil
  go_simp
  (refine (hd x v W.drew).mono ?_; rintro e w2 ⟨rfl, b2⟩; have b2 : Below W.heap.size W w2 := ⟨b2.os, b2.tape, b2.output, b2.size, b2.block⟩)
  go_wp2_with fail
  refine hK.out _ _ ⟨(b2.cell (p := ⟨pc, 0, none⟩) (show pc < W.heap.size by omega)).trans h0, (b2.cell (p := ⟨pv, 0, none⟩) (show pv < W.heap.size by omega)).trans h10, (b2.cell (p := ⟨hb, 0, none⟩) (show hb < W.heap.size by omega)).trans h2⟩ (fun hHeld => ?_)
  clear hK K
  try simp only [Act.put, List.setIfInBounds_toArray, List.set_cons_zero, List.set_cons_succ]
  refine take_d (v := ?_) 7 4 rfl rfl (by kernel_rfl) (by kernel_rfl) (by kernel_rfl) (fun _ _ _ h => h) (by kernel_rfl) ?_ (by assumption) ?_
  rotate_left
  · (intro w hSw; (try dsimp only at hSw); go_simp; first | done | with_reducible rfl)
  try simp only [Act.put, List.setIfInBounds_toArray, List.set_cons_zero, List.set_cons_succ]
  refine wpAnyH_done (by kernel_rfl) ?_ _
  go_wp2_with fail
  go_ret
  exact ⟨rfl, b2⟩

/-- What the closure of ins reads: the box of the chain's pointer, the box of the element, the chain's function. -/
def I_ins (pc pv hb : Nat) (f : Nat) (v : ByteArray) (W : World) : Prop := W.cell? ⟨pc, 0, none⟩ = some (.pointer (some ⟨hb, 0, none⟩)) ∧ W.cell? ⟨pv, 0, none⟩ = some (.string v) ∧ W.cell? ⟨hb, 1, none⟩ = some (.func (.func f) #[] #[])
set_option maxRecDepth 100000 in
set_option maxHeartbeats 2000000 in
theorem ins_p {f : Nat} {r : ByteArray → ByteArray → Bool} (hr : Rel f r) (pc pv hb : Nat) (v : ByteArray) : Pred 58 (.pointer (some ⟨pc, 0, none⟩)) (.pointer (some ⟨pv, 0, none⟩)) (I_ins pc pv hb f v) (fun x => r v x) := by
  refine ⟨fun args W => by go_simp, fun x W hW => ?_⟩
  obtain ⟨h0, h10, h2⟩ := hW
  have hcall := hr.call
  have hd := hr.does
  skip
  skip
  go_enter Try.func58, Try.ntmps58
  have lt0 := World.block_lt_of_cell? W _ h0
  have lt1 := World.block_lt_of_cell? W _ h10
  have lt2 := World.block_lt_of_cell? W _ h2
  simp only at lt0 lt1 lt2
  go_upto_region 1 with fail
  refine wp_region_held_drew (S := fun w' => w'.cell? ⟨pc, 0, none⟩ = some (.pointer (some ⟨hb, 0, none⟩)) ∧ w'.cell? ⟨pv, 0, none⟩ = some (.string v) ∧ w'.cell? ⟨hb, 1, none⟩ = some (.func (.func f) #[] #[])) (by kernel_rfl) ⟨h0, h10, h2⟩ (fun hHeld => ?_)
  refine take_d (v := ?_) 0 5 rfl rfl (by kernel_rfl) (by kernel_rfl) (by kernel_rfl) (fun _ _ _ h => h) (by kernel_rfl) ?_ (by assumption) ?_
  rotate_left
  · (intro w hSw; (try dsimp only at hSw); go_simp; first | done | with_reducible rfl)
  try simp only [Act.put, List.setIfInBounds_toArray, List.set_cons_zero, List.set_cons_succ]
  refine take_d (v := ?_) 1 6 rfl rfl (by kernel_rfl) (by kernel_rfl) (by kernel_rfl) (fun _ _ _ h => h) (by kernel_rfl) ?_ (by assumption) ?_
  rotate_left
  · (intro w hSw; (try dsimp only at hSw); go_simp; first | done | with_reducible rfl)
  try simp only [Act.put, List.setIfInBounds_toArray, List.set_cons_zero, List.set_cons_succ]
  refine take_d (v := ?_) 2 7 rfl rfl (by kernel_rfl) (by kernel_rfl) (by kernel_rfl) (fun _ _ _ h => h) (by kernel_rfl) ?_ (by assumption) ?_
  rotate_left
  · (intro w hSw; (try dsimp only at hSw); go_simp; first | done | with_reducible rfl)
  try simp only [Act.put, List.setIfInBounds_toArray, List.set_cons_zero, List.set_cons_succ]
  refine take_d (v := ?_) 3 8 rfl rfl (by kernel_rfl) (by kernel_rfl) (by kernel_rfl) (fun _ _ _ h => h) (by kernel_rfl) ?_ (by assumption) ?_
  rotate_left
  · (intro w hSw; (try dsimp only at hSw); go_simp; first | done | with_reducible rfl)
  try simp only [Act.put, List.setIfInBounds_toArray, List.set_cons_zero, List.set_cons_succ]
  refine take_d (v := ?_) 4 9 rfl rfl (by kernel_rfl) (by kernel_rfl) (by kernel_rfl) (fun _ _ _ h => h) (by kernel_rfl) ?_ (by assumption) ?_
  rotate_left
  · (intro w hSw; (try dsimp only at hSw); go_simp; first | done | with_reducible rfl)
  try simp only [Act.put, List.setIfInBounds_toArray, List.set_cons_zero, List.set_cons_succ]
  refine take_d (v := ?_) 5 10 rfl rfl (by kernel_rfl) (by kernel_rfl) (by kernel_rfl) (fun _ _ _ h => h) (by kernel_rfl) ?_ (by assumption) ?_
  rotate_left
  · (intro w hSw; (try dsimp only at hSw); go_simp; first | done | with_reducible rfl)
  try simp only [Act.put, List.setIfInBounds_toArray, List.set_cons_zero, List.set_cons_succ]
  refine wpAnyH_ready (rs := [6]) (by kernel_rfl) (by simp) ?_
  refine AllReadyH.cons rfl (fun K hK => ?_) AllReadyH.nil
  go_simp
  (refine (hd v x W.drew).mono ?_; rintro e w2 ⟨rfl, b2⟩; have b2 : Below W.heap.size W w2 := ⟨b2.os, b2.tape, b2.output, b2.size, b2.block⟩)
  go_wp2_with fail
  refine hK.out _ _ ⟨(b2.cell (p := ⟨pc, 0, none⟩) (show pc < W.heap.size by omega)).trans h0, (b2.cell (p := ⟨pv, 0, none⟩) (show pv < W.heap.size by omega)).trans h10, (b2.cell (p := ⟨hb, 1, none⟩) (show hb < W.heap.size by omega)).trans h2⟩ (fun hHeld => ?_)
  clear hK K
  try simp only [Act.put, List.setIfInBounds_toArray, List.set_cons_zero, List.set_cons_succ]
  refine take_d (v := ?_) 7 4 rfl rfl (by kernel_rfl) (by kernel_rfl) (by kernel_rfl) (fun _ _ _ h => h) (by kernel_rfl) ?_ (by assumption) ?_
  rotate_left
  · (intro w hSw; (try dsimp only at hSw); go_simp; first | done | with_reducible rfl)
  try simp only [Act.put, List.setIfInBounds_toArray, List.set_cons_zero, List.set_cons_succ]
  refine wpAnyH_done (by kernel_rfl) ?_ _
  go_wp2_with fail
  go_ret
  exact ⟨rfl, b2⟩

/-- What the closure of cut reads: the box of the chain's pointer, the box of the element, the chain's function. -/
def I_cut (pc pv hb : Nat) (f : Nat) (v : ByteArray) (W : World) : Prop := W.cell? ⟨pc, 0, none⟩ = some (.pointer (some ⟨hb, 0, none⟩)) ∧ W.cell? ⟨pv, 0, none⟩ = some (.string v) ∧ W.cell? ⟨hb, 0, none⟩ = some (.func (.func f) #[] #[])
set_option maxRecDepth 100000 in
set_option maxHeartbeats 2000000 in
theorem cut_p {f : Nat} {r : ByteArray → ByteArray → Bool} (hr : Rel f r) (pc pv hb : Nat) (v : ByteArray) : Pred 63 (.pointer (some ⟨pc, 0, none⟩)) (.pointer (some ⟨pv, 0, none⟩)) (I_cut pc pv hb f v) (fun x => r v x) := by
  refine ⟨fun args W => by go_simp, fun x W hW => ?_⟩
  obtain ⟨h0, h10, h2⟩ := hW
  have hcall := hr.call
  have hd := hr.does
  skip
  skip
  go_enter Try.func63, Try.ntmps63
  have lt0 := World.block_lt_of_cell? W _ h0
  have lt1 := World.block_lt_of_cell? W _ h10
  have lt2 := World.block_lt_of_cell? W _ h2
  simp only at lt0 lt1 lt2
  go_upto_region 1 with fail
  refine wp_region_held_drew (S := fun w' => w'.cell? ⟨pc, 0, none⟩ = some (.pointer (some ⟨hb, 0, none⟩)) ∧ w'.cell? ⟨pv, 0, none⟩ = some (.string v) ∧ w'.cell? ⟨hb, 0, none⟩ = some (.func (.func f) #[] #[])) (by kernel_rfl) ⟨h0, h10, h2⟩ (fun hHeld => ?_)
  refine take_d (v := ?_) 0 5 rfl rfl (by kernel_rfl) (by kernel_rfl) (by kernel_rfl) (fun _ _ _ h => h) (by kernel_rfl) ?_ (by assumption) ?_
  rotate_left
  · (intro w hSw; (try dsimp only at hSw); go_simp; first | done | with_reducible rfl)
  try simp only [Act.put, List.setIfInBounds_toArray, List.set_cons_zero, List.set_cons_succ]
  refine take_d (v := ?_) 1 6 rfl rfl (by kernel_rfl) (by kernel_rfl) (by kernel_rfl) (fun _ _ _ h => h) (by kernel_rfl) ?_ (by assumption) ?_
  rotate_left
  · (intro w hSw; (try dsimp only at hSw); go_simp; first | done | with_reducible rfl)
  try simp only [Act.put, List.setIfInBounds_toArray, List.set_cons_zero, List.set_cons_succ]
  refine take_d (v := ?_) 2 7 rfl rfl (by kernel_rfl) (by kernel_rfl) (by kernel_rfl) (fun _ _ _ h => h) (by kernel_rfl) ?_ (by assumption) ?_
  rotate_left
  · (intro w hSw; (try dsimp only at hSw); go_simp; first | done | with_reducible rfl)
  try simp only [Act.put, List.setIfInBounds_toArray, List.set_cons_zero, List.set_cons_succ]
  refine take_d (v := ?_) 3 8 rfl rfl (by kernel_rfl) (by kernel_rfl) (by kernel_rfl) (fun _ _ _ h => h) (by kernel_rfl) ?_ (by assumption) ?_
  rotate_left
  · (intro w hSw; (try dsimp only at hSw); go_simp; first | done | with_reducible rfl)
  try simp only [Act.put, List.setIfInBounds_toArray, List.set_cons_zero, List.set_cons_succ]
  refine take_d (v := ?_) 4 9 rfl rfl (by kernel_rfl) (by kernel_rfl) (by kernel_rfl) (fun _ _ _ h => h) (by kernel_rfl) ?_ (by assumption) ?_
  rotate_left
  · (intro w hSw; (try dsimp only at hSw); go_simp; first | done | with_reducible rfl)
  try simp only [Act.put, List.setIfInBounds_toArray, List.set_cons_zero, List.set_cons_succ]
  refine take_d (v := ?_) 5 10 rfl rfl (by kernel_rfl) (by kernel_rfl) (by kernel_rfl) (fun _ _ _ h => h) (by kernel_rfl) ?_ (by assumption) ?_
  rotate_left
  · (intro w hSw; (try dsimp only at hSw); go_simp; first | done | with_reducible rfl)
  try simp only [Act.put, List.setIfInBounds_toArray, List.set_cons_zero, List.set_cons_succ]
  refine wpAnyH_ready (rs := [6]) (by kernel_rfl) (by simp) ?_
  refine AllReadyH.cons rfl (fun K hK => ?_) AllReadyH.nil
  go_simp
  (refine (hd v x W.drew).mono ?_; rintro e w2 ⟨rfl, b2⟩; have b2 : Below W.heap.size W w2 := ⟨b2.os, b2.tape, b2.output, b2.size, b2.block⟩)
  go_wp2_with fail
  refine hK.out _ _ ⟨(b2.cell (p := ⟨pc, 0, none⟩) (show pc < W.heap.size by omega)).trans h0, (b2.cell (p := ⟨pv, 0, none⟩) (show pv < W.heap.size by omega)).trans h10, (b2.cell (p := ⟨hb, 0, none⟩) (show hb < W.heap.size by omega)).trans h2⟩ (fun hHeld => ?_)
  clear hK K
  try simp only [Act.put, List.setIfInBounds_toArray, List.set_cons_zero, List.set_cons_succ]
  refine take_d (v := ?_) 7 4 rfl rfl (by kernel_rfl) (by kernel_rfl) (by kernel_rfl) (fun _ _ _ h => h) (by kernel_rfl) ?_ (by assumption) ?_
  rotate_left
  · (intro w hSw; (try dsimp only at hSw); go_simp; first | done | with_reducible rfl)
  try simp only [Act.put, List.setIfInBounds_toArray, List.set_cons_zero, List.set_cons_succ]
  refine wpAnyH_done (by kernel_rfl) ?_ _
  go_wp2_with fail
  go_ret
  exact ⟨rfl, b2⟩

end CS
end Go.Proofs.Ythchppnfffllnaa
