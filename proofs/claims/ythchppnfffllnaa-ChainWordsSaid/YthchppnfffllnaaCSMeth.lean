/- Covers, Cut, Clone, List, Len, Clear, Copy, New: the contracts. -/
import Derived.Test.YthchppnfffllnaaCSDel
import Derived.Lib.SliceRun
set_option linter.unusedVariables false
set_option linter.unusedSimpArgs false
namespace Go.Proofs.Ythchppnfffllnaa
open Go.RowKit PChainScript
namespace CS
theorem cell_set_ne {w : World} {p q : Addr} (h : p.block ≠ q.block) (u : Value) : (w.setCell q u).cell? p = w.cell? p := by
  unfold World.cell?
  rw [Below.heap_setCell w q u p.block h]
theorem fr_cell {w w' : World} {g : Nat} {row : Option Nat} (h : Fr w w' g row) {p : Addr} (hp : p.block < w.heap.size) (hg : p.block ≠ g) (hr : some p.block ≠ row) : w'.cell? p = w.cell? p := by
  unfold World.cell?
  rw [h.block p.block hp hg hr]
/-- DeleteFunc over the chain's row, whatever it is. -/
theorem del_any {k : Nat} {c1 c2 : Value} {I : World → Prop} {p : ByteArray → Bool} (hp : Pred k c1 c2 I p) {B : Nat} {w : World} {v : Value} {n : Nat} {l : List ByteArray}
    (hI : ∀ W W', I W → (∀ z, Fr W W' z v.ownBlock) → I W') (ho : Own B w v n l) (h0 : I w) :
    Calls Try.prog 62 #[v, .func (.func k) #[] #[c1, c2]] w fun e w' => ∃ v', e = .returned v' ∧ Own B w' v' (l.filter (fun x => !p x)).length (l.filter (fun x => !p x)) ∧ v'.ownBlock = v.ownBlock ∧ ∀ z, Fr w w' z v.ownBlock := by
  rcases ho.2 with ⟨rfl, rfl⟩ | ⟨g, cap, cs, rfl, hB, hh, hc, hm, hs, ht⟩
  · have hl : l = [] := List.eq_nil_of_length_eq_zero ho.len.symm
    subst hl
    have hh := idx_c hp (fun W W' h b => hI W W' h (fun z => Fr.of_below b z _)) ho h0
    have hz : idxI p ([] : List ByteArray) = -1 := rfl
    rw [hz] at hh
    go_enter Try.func62, Try.ntmps62
    go_wp2_with (go_at_call 57; refine hh.mono ?_; rintro e w1 ⟨rfl, b1⟩)
    go_ret
    exact ⟨_, rfl, own_below ho b1, rfl, fun z => Fr.of_below b1 z _⟩
  · have wk : ∀ {W W' : World}, Fr W W' g none → ∀ z, Fr W W' z (some g) := fun h z => ⟨h.os, h.tape, h.output, h.size, fun k hk _ hr => h.block k hk (fun e => hr (by rw [e])) (by simp)⟩
    refine (del_c hp (fun W W' h f => hI W W' h (wk f)) ho h0).mono ?_
    rintro e w' ⟨m, rfl, hO, hF⟩
    have := hO.len
    subst this
    exact ⟨_, rfl, hO, rfl, wk hF⟩
/-- What stands behind the two boxes at the head of a method. -/
structure Boxed (w W : World) (pc pv hb : Nat) (x : ByteArray) : Prop where
  be : Below w.heap.size w W
  lc : pc < W.heap.size
  lv : pv < W.heap.size
  gc : w.heap.size ≤ pc
  gv : w.heap.size ≤ pv
  cc : W.cell? ⟨pc, 0, none⟩ = some (.pointer (some ⟨hb, 0, none⟩))
  cv : W.cell? ⟨pv, 0, none⟩ = some (.string x)
theorem boxed (w : World) (hb : Nat) (x : ByteArray) : Boxed w ((w.alloc (.cells #[.pointer (some ⟨hb, 0, none⟩)] 57)).alloc (.cells (ct x).toArray 9)) w.heap.size (w.heap.size + 1) hb x := by
  have e1 : (w.alloc (.cells #[.pointer (some ⟨hb, 0, none⟩)] 57)).heap.size = w.heap.size + 1 := by simp
  have bc : ((w.alloc (.cells #[.pointer (some ⟨hb, 0, none⟩)] 57)).alloc (.cells (ct x).toArray 9)).heap[w.heap.size]? = some (.cells #[.pointer (some ⟨hb, 0, none⟩)] 57 (0, 0)) := blk_alloc (heap_alloc_new _ _) _
  have bv : ((w.alloc (.cells #[.pointer (some ⟨hb, 0, none⟩)] 57)).alloc (.cells (ct x).toArray 9)).heap[w.heap.size + 1]? = some (.cells (ct x).toArray 9 (0, 0)) := by rw [← e1]; exact heap_alloc_new _ _
  exact ⟨((Below.refl _ _).alloc (Nat.le_refl _) _).alloc (by simp) _, by simp; omega, by simp, by omega, by omega, blk_cell bc 0, blk_cell bv 0⟩
theorem Boxed.then {w W W' : World} {pc pv hb : Nat} {x : ByteArray} (h : Boxed w W pc pv hb x) (b : Below W.heap.size W W') : Boxed w W' pc pv hb x :=
  ⟨h.be.trans (b.mono h.be.size), Nat.lt_of_lt_of_le h.lc b.size, Nat.lt_of_lt_of_le h.lv b.size, h.gc, h.gv, (b.cell (p := ⟨pc, 0, none⟩) h.lc).trans h.cc, (b.cell (p := ⟨pv, 0, none⟩) h.lv).trans h.cv⟩

set_option maxRecDepth 100000 in
set_option maxHeartbeats 2000000 in
theorem covers_c {fb : Nat} {r : ByteArray → ByteArray → Bool} (hr : Rel fb r) {B : Nat} {w : World} {hb ff : Nat} {v : Value} {l : List ByteArray} (H : Chain B w hb fb ff v l) (x : ByteArray) :
    Calls Try.prog 34 #[.pointer (some ⟨hb, 0, none⟩), vt x] w fun e w' => e = .returned (.bool (l.any (fun y => r y x))) ∧ Below w.heap.size w w' := by
  obtain ⟨a, c, rfl⟩ := H.shape
  have hX := boxed w hb x
  have H1 := H.below hX.be
  have hlt := blk_lt H.blk
  obtain ⟨pc, hpc⟩ : ∃ pc, pc = w.heap.size := ⟨_, rfl⟩
  obtain ⟨pv, hpv⟩ : ∃ pv, pv = w.heap.size + 1 := ⟨_, rfl⟩
  obtain ⟨res, hres⟩ : ∃ res, res = l.any (fun y => r y x) := ⟨_, rfl⟩
  rw [← hres]
  have HRES := Lib.hid hres
  clear hres
  skip
  go_enter Try.func34, Try.ntmps34
  go_upto_region 1 with fail
  simp only [ct] at hX H1
  rw [← hpv, ← hpc] at hX
  rw [← hpv, ← hpc]
  generalize ((w.alloc (.cells #[.pointer (some ⟨hb, 0, none⟩)] 57)).alloc (.cells #[.string x] 9)) = W1 at *
  have hc0 := hX.cc
  have hc2 := blk_cell H1.blk 2
  simp at hc2
  have hcl := cont_c (cov_p hr pc pv hb x) (I := I_cov pc pv hb fb x) (fun W W' h b => by
    obtain ⟨h0, h10, h2⟩ := h
    have l0 := World.block_lt_of_cell? W _ h0
    have l1 := World.block_lt_of_cell? W _ h10
    have l2 := World.block_lt_of_cell? W _ h2
    exact ⟨(b.cell l0).trans h0, (b.cell (p := ⟨pv, 0, none⟩) l1).trans h10, (b.cell l2).trans h2⟩) H1.own ⟨hc0, hX.cv, (blk_cell H1.blk 0)⟩
  rw [← HRES.out] at hcl
  clear hpc hpv
  go_wp2_with (go_at_call 60; refine hcl.mono ?_; rintro e w2 ⟨rfl, b2⟩)
  go_ret
  exact ⟨rfl, hX.be.trans (b2.mono hX.be.size)⟩
theorem covers_nil (x : ByteArray) (w : World) : Calls Try.prog 34 #[.pointer none, vt x] w fun e w' => e = .returned (.bool false) ∧ Below w.heap.size w w' := by
  have b1 : Below w.heap.size w ((w.alloc (.cells #[.pointer none] 57)).alloc (.cells (ct x).toArray 9)) := ((Below.refl _ _).alloc (Nat.le_refl _) _).alloc (by simp) _
  skip
  simp only [ct] at b1
  go_enter Try.func34, Try.ntmps34
  go_wp2
  go_ret
  exact ⟨rfl, b1⟩

def cutL (r : ByteArray → ByteArray → Bool) (x : ByteArray) (l : List ByteArray) : List ByteArray := l.filter (fun y => !r x y)
set_option maxRecDepth 100000 in
set_option maxHeartbeats 2000000 in
theorem cut_c {fb : Nat} {r : ByteArray → ByteArray → Bool} (hr : Rel fb r) {B : Nat} {w : World} {hb ff : Nat} {v : Value} {l : List ByteArray} (H : Chain B w hb fb ff v l) (x : ByteArray) (hl : l.length ≤ 140737488355328) :
    Calls Try.prog 56 #[.pointer (some ⟨hb, 0, none⟩), vt x] w fun e w' => e = .returned (.int .i64 ((l.length : Int) - ((cutL r x l).length : Int))) ∧ ∃ v', Chain B w' hb fb ff v' (cutL r x l) ∧ Fr w w' hb v.ownBlock ∧ v'.ownBlock = v.ownBlock := by
  obtain ⟨a, c, rfl⟩ := H.shape
  have hX := boxed w hb x
  have H1 := H.below hX.be
  have hlt := blk_lt H.blk
  have hlc : (cutL r x l).length ≤ l.length := List.length_filter_le _ _
  obtain ⟨m, hm⟩ : ∃ m, m = cutL r x l := ⟨_, rfl⟩
  rw [← hm] at hlc ⊢
  have HM := Lib.hid hm
  clear hm
  obtain ⟨pc, hpc⟩ : ∃ pc, pc = w.heap.size := ⟨_, rfl⟩
  obtain ⟨pv, hpv⟩ : ∃ pv, pv = w.heap.size + 1 := ⟨_, rfl⟩
  skip
  go_enter Try.func56, Try.ntmps56
  go_upto_region 1 with fail
  simp only [ct] at hX H1
  rw [← hpv, ← hpc] at hX
  rw [← hpv, ← hpc]
  generalize ((w.alloc (.cells #[.pointer (some ⟨hb, 0, none⟩)] 57)).alloc (.cells #[.string x] 9)) = W1 at *
  have hc0 := hX.cc
  have hc2 := blk_cell H1.blk 2
  simp at hc2
  have hrow : ∀ k, w.heap.size ≤ k → some k ≠ (Value.slice a l.length c).ownBlock := fun k hk e => by have := (H.own.lt k e.symm).2; omega
  have hpr := hrow pc hX.gc
  have hpr2 := hrow pv hX.gv
  have hgc := hX.gc
  have hltW : hb < W1.heap.size := Nat.lt_of_lt_of_le hlt hX.be.size
  have hcl := del_any (w := W1.drew) (cut_p hr pc pv hb x) (I := I_cut pc pv hb fb x) (fun W W' h b => by
    obtain ⟨h0, h10, h2⟩ := h
    have l0 := World.block_lt_of_cell? W _ h0
    have l1 := World.block_lt_of_cell? W _ h10
    have l2 := World.block_lt_of_cell? W _ h2
    exact ⟨(fr_cell (b (pc + 1)) (p := ⟨pc, 0, none⟩) l0 (by simp) hpr).trans h0, (fr_cell (b (pv + 1)) (p := ⟨pv, 0, none⟩) l1 (by simp) hpr2).trans h10, (fr_cell (b (hb + 1)) (p := ⟨hb, 0, none⟩) l2 (by simp) (Ne.symm H1.not_row)).trans h2⟩) H1.own ⟨hc0, hX.cv, (blk_cell H1.blk 0)⟩
  rw [show l.filter (fun y => !r x y) = m from HM.out.symm] at hcl
  clear hpc hpv
  go_upto_region 4 with fail
  refine wp_region_held_drew (S := fun w' => w'.cell? ⟨pc, 0, none⟩ = some (.pointer (some ⟨hb, 0, none⟩))) (by kernel_rfl) hX.cc (fun hHeld => ?_)
  refine take_d (v := ?_) 0 13 rfl rfl (by kernel_rfl) (by kernel_rfl) (by kernel_rfl) (fun _ _ _ h => h) (by kernel_rfl) ?_ (by assumption) ?_
  rotate_left
  · (intro w hSw; (try dsimp only at hSw); go_simp; first | done | with_reducible rfl)
  try simp only [Act.put, List.setIfInBounds_toArray, List.set_cons_zero, List.set_cons_succ]
  refine take_d (v := ?_) 1 14 rfl rfl (by kernel_rfl) (by kernel_rfl) (by kernel_rfl) (fun _ _ _ h => h) (by kernel_rfl) ?_ (by assumption) ?_
  rotate_left
  · (intro w hSw; (try dsimp only at hSw); go_simp; first | done | with_reducible rfl)
  try simp only [Act.put, List.setIfInBounds_toArray, List.set_cons_zero, List.set_cons_succ]
  refine take_d (v := ?_) 2 15 rfl rfl (by kernel_rfl) (by kernel_rfl) (by kernel_rfl) (fun _ _ _ h => h) (by kernel_rfl) ?_ (by assumption) ?_
  rotate_left
  · (intro w hSw; (try dsimp only at hSw); go_simp; first | done | with_reducible rfl)
  try simp only [Act.put, List.setIfInBounds_toArray, List.set_cons_zero, List.set_cons_succ]
  refine take_d (v := ?_) 3 16 rfl rfl (by kernel_rfl) (by kernel_rfl) (by kernel_rfl) (fun _ _ _ h => h) (by kernel_rfl) ?_ (by assumption) ?_
  rotate_left
  · (intro w hSw; (try dsimp only at hSw); go_simp; first | done | with_reducible rfl)
  try simp only [Act.put, List.setIfInBounds_toArray, List.set_cons_zero, List.set_cons_succ]
  refine take_d (v := ?_) 5 18 rfl rfl (by kernel_rfl) (by kernel_rfl) (by kernel_rfl) (fun _ _ _ h => h) (by kernel_rfl) ?_ (by assumption) ?_
  rotate_left
  · (intro w hSw; (try dsimp only at hSw); go_simp; first | done | with_reducible rfl)
  try simp only [Act.put, List.setIfInBounds_toArray, List.set_cons_zero, List.set_cons_succ]
  refine wpAnyH_ready (rs := [4]) (by kernel_rfl) (by simp) ?_
  refine AllReadyH.cons rfl (fun K hK => ?_) AllReadyH.nil
  go_simp
  skip
  go_wp2_with fail
  refine hK.out _ _ hX.cc (fun hHeld => ?_)
  clear hK K
  try simp only [Act.put, List.setIfInBounds_toArray, List.set_cons_zero, List.set_cons_succ]
  refine wpAnyH_ready (rs := [6]) (by kernel_rfl) (by simp) ?_
  refine AllReadyH.cons rfl (fun K hK => ?_) AllReadyH.nil
  go_simp
  (refine hcl.mono ?_; rintro e w2 ⟨v2, rfl, o2, q2, f2⟩; obtain ⟨a2, k2, rfl⟩ := own_shape o2; have hb2 := ((f2 (hb + 1)).block hb hltW (by omega) (Ne.symm H1.not_row)).trans H1.blk; have c22 := blk_cell hb2 2; have z22 := blk_frozen hb2 2; simp at c22)
  go_wp2_with fail
  refine hK.out _ _ ((fr_cell (f2 (pc + 1)) (p := ⟨pc, 0, none⟩) hX.lc (by simp) hpr).trans hX.cc) (fun hHeld => ?_)
  clear hK K
  try simp only [Act.put, List.setIfInBounds_toArray, List.set_cons_zero, List.set_cons_succ]
  refine take_d (v := ?_) 7 20 rfl rfl (by kernel_rfl) (by kernel_rfl) (by kernel_rfl) (fun _ _ _ h => h) (by kernel_rfl) ?_ (by assumption) ?_
  rotate_left
  · (intro w hSw; (try dsimp only at hSw); go_simp; first | done | with_reducible rfl)
  try simp only [Act.put, List.setIfInBounds_toArray, List.set_cons_zero, List.set_cons_succ]
  refine take_d (v := ?_) 8 21 rfl rfl (by kernel_rfl) (by kernel_rfl) (by kernel_rfl) (fun _ _ _ h => h) (by kernel_rfl) ?_ (by assumption) ?_
  rotate_left
  · (intro w hSw; (try dsimp only at hSw); go_simp; first | done | with_reducible rfl)
  try simp only [Act.put, List.setIfInBounds_toArray, List.set_cons_zero, List.set_cons_succ]
  refine wpAnyH_ready (rs := [9]) (by kernel_rfl) (by simp) ?_
  refine AllReadyH.cons rfl (fun K hK => ?_) AllReadyH.nil
  go_simp
  skip
  go_wp2_with fail
  refine hK.out _ _ ((cell_set_ne (p := ⟨pc, 0, none⟩) (q := ⟨hb, 2, none⟩) (by simp; omega) _).trans ((fr_cell (f2 (pc + 1)) (p := ⟨pc, 0, none⟩) hX.lc (by simp) hpr).trans hX.cc)) (fun hHeld => ?_)
  clear hK K
  try simp only [Act.put, List.setIfInBounds_toArray, List.set_cons_zero, List.set_cons_succ]
  refine wpAnyH_done (by kernel_rfl) ?_ _
  go_wp2_with fail
  go_ret
  exact ⟨rfl, _, H1.put (hb2.trans H1.blk.symm) o2 (by rw [q2]; exact H1.not_row), (((Fr.of_below hX.be hb _).drew).trans (f2 hb) (.inl rfl)).setCell (.inl rfl) _, q2⟩
theorem cut_nil (x : ByteArray) (w : World) : Calls Try.prog 56 #[.pointer none, vt x] w fun e w' => e = .returned (.int .i64 0) ∧ Below w.heap.size w w' := by
  have b1 : Below w.heap.size w ((w.alloc (.cells #[.pointer none] 57)).alloc (.cells (ct x).toArray 9)) := ((Below.refl _ _).alloc (Nat.le_refl _) _).alloc (by simp) _
  skip
  simp only [ct] at b1
  go_enter Try.func56, Try.ntmps56
  go_wp2
  go_ret
  exact ⟨rfl, b1⟩
theorem clone_nil (w : World) : Calls Try.prog 59 #[.slice none 0 0] w fun e w' => e = .returned (.slice none 0 0) ∧ w = w' := by
  have hq := fun (W : World) (a : Option Addr) (n c : Nat) => Lib.run_eql_slice_nil (P := Try.prog) W 56 9 a n c 0 0 Try.underlying56
  go_enter Try.func59, Try.ntmps59
  go_wp2
  go_ret
  exact ⟨rfl, rfl⟩
set_option maxRecDepth 100000 in
set_option maxHeartbeats 1000000 in
/-- Clone of a row of the chain's. -/
theorem clone_c {B : Nat} {w : World} {a : Option Addr} {n c : Nat} {l : List ByteArray} (ho : Own B w (.slice a n c) n l) (hl : l.length * 16 ≤ 140737488355328) :
    Calls Try.prog 59 #[.slice a n c] w fun e w' => ∃ v, e = .returned v ∧ Own w.heap.size w' v n l ∧ Below w.heap.size w w' := by
  obtain ⟨i0, hi0, hz0, hz1, hz2⟩ := info_parts info
  have hlen := ho.len
  rw [← hlen] at hl
  rcases ho.2 with ⟨hv, h0⟩ | ⟨g, cap, cs, hv, _⟩
  · injection hv with h1 h2 h3
    subst h1; subst h2; subst h3
    have hl0 : l = [] := List.eq_nil_of_length_eq_zero hlen.symm
    subst hl0
    refine (clone_nil w).mono ?_
    rintro e w' ⟨rfl, rfl⟩
    exact ⟨_, rfl, ⟨by simp [flat], .inl ⟨rfl, rfl⟩⟩, Below.refl _ _⟩
  · injection hv with h1 h2 h3
    subst h1
    obtain ⟨ad, had⟩ : ∃ ad : Addr, ad = ⟨g, 0, none⟩ := ⟨_, rfl⟩
    rw [← had] at ho ⊢
    clear had h3
    have f1 := flat_one l
    have hr : Reads w w.heap.size 1 (some ad) n (flat l) := Reads.of_own ho
    have hr := Lib.hid (hr.alloc (Nat.le_refl _) (.cells #[] 9))
    clear ho hlen
    have hq := fun (W : World) (a : Option Addr) (n c : Nat) => Lib.run_eql_slice_nil (P := Try.prog) W 56 9 a n c 0 0 Try.underlying56
    go_enter Try.func59, Try.ntmps59
    go_wp2_with (at_builtin; refine wpList_append_any _ rfl (.tmp 5) (.tmp 6) _ rfl w.heap.size 9 i0 _ 1 16 Try.underlying56 hi0 hz0 hz1 hz2 rfl (by omega) (.slice (some ⟨w.heap.size, 0, none⟩) 0 0) 0 [] rfl (World.ownsRow_made w #[] 0 (Nat.le_refl _) (by decide) (by rfl)) w.heap.size (some ad) n c (flat l) rfl hr.out f1 (by unfold maxLen; omega) (by omega) (by simp) ?_; intro v1 w1 hown1 hgrow1 hat1)
    go_ret
    simp only [Nat.zero_add, List.nil_append] at hown1
    exact ⟨v1, rfl, hown1, ((Below.refl _ _).alloc (Nat.le_refl _) _).grown hgrow1 (by simp) (fun k hk => by simp [Value.ownBlock] at hk; omega)⟩
set_option maxHeartbeats 1000000 in
theorem list_c {B : Nat} {w : World} {hb fb ff : Nat} {v : Value} {l : List ByteArray} (H : Chain B w hb fb ff v l) (hl : l.length * 16 ≤ 140737488355328) :
    Calls Try.prog 33 #[.pointer (some ⟨hb, 0, none⟩)] w fun e w' => ∃ v', e = .returned v' ∧ Own w.heap.size w' v' l.length l ∧ Below w.heap.size w w' := by
  obtain ⟨a, c, rfl⟩ := H.shape
  have hc2 := blk_cell H.blk 2
  simp at hc2
  have hcl := clone_c H.own hl
  obtain ⟨n, hn⟩ : ∃ n, n = l.length := ⟨_, rfl⟩
  rw [← hn] at hc2 hcl ⊢
  clear hn hl H
  go_enter Try.func33, Try.ntmps33
  go_wp2_with (go_at_call 59; refine hcl.mono ?_; rintro e w1 ⟨v1, rfl, o1, b1⟩)
  go_ret
  exact ⟨v1, rfl, o1, b1⟩
theorem list_nil (w : World) : Calls Try.prog 33 #[.pointer none] w fun e w' => e = .returned (.slice none 0 0) ∧ Below w.heap.size w w' := by
  go_enter Try.func33, Try.ntmps33
  go_wp2
  go_ret
  exact ⟨rfl, Below.refl _ _⟩
theorem len_c {B : Nat} {w : World} {hb fb ff : Nat} {v : Value} {l : List ByteArray} (H : Chain B w hb fb ff v l) :
    Calls Try.prog 35 #[.pointer (some ⟨hb, 0, none⟩)] w fun e w' => e = .returned (.int .i64 l.length) ∧ Below w.heap.size w w' := by
  obtain ⟨a, c, rfl⟩ := H.shape
  have hc2 := blk_cell H.blk 2
  simp at hc2
  obtain ⟨n, hn⟩ : ∃ n, n = l.length := ⟨_, rfl⟩
  rw [← hn] at hc2 ⊢
  clear hn H
  go_enter Try.func35, Try.ntmps35
  go_wp2
  go_ret
  exact ⟨rfl, Below.refl _ _⟩
theorem len_nil (w : World) : Calls Try.prog 35 #[.pointer none] w fun e w' => e = .returned (.int .i64 0) ∧ Below w.heap.size w w' := by
  go_enter Try.func35, Try.ntmps35
  go_wp2
  go_ret
  exact ⟨rfl, Below.refl _ _⟩
theorem new_c (w : World) (B : Nat) (hB : B ≤ w.heap.size) (fb ff : Nat) :
    Calls Try.prog 29 #[.func (.func fb) #[] #[], .func (.func ff) #[] #[]] w fun e w' => ∃ hb, e = .returned (.pointer (some ⟨hb, 0, none⟩)) ∧ w.heap.size ≤ hb ∧ Chain B w' hb fb ff (.slice none 0 0) [] ∧ Below w.heap.size w w' := by
  go_enter Try.func29, Try.ntmps29
  go_wp2
  go_ret
  exact ⟨_, rfl, Nat.le_refl _, ⟨hB, heap_alloc_new _ _, ⟨by simp [flat], .inl ⟨rfl, rfl⟩⟩⟩, (Below.refl _ _).alloc (Nat.le_refl _) _⟩

end CS
end Go.Proofs.Ythchppnfffllnaa
