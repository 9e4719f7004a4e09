/- Insert: the contract. -/
import Derived.Test.YthchppnfffllnaaCPMeth
import Derived.Deep.DeepCutAuto
set_option linter.unusedVariables false
set_option linter.unusedSimpArgs false
namespace Go.Proofs.Ythchppnfffllnaa
open Go.RowKit PChainScript
namespace CP
def pos (f : S35 → S35 → Bool) (x : S35) (m : List S35) : Nat := if idxI (f x) m < 0 then m.length else (idxI (f x) m).toNat
def insAt (i : Nat) (x : S35) (m : List S35) : List S35 := m.take i ++ x :: m.drop i
def insertL (r f : S35 → S35 → Bool) (x : S35) (l : List S35) : List S35 := if l.any (fun y => r y x) then l else insAt (pos f x (cutL r x l)) x (cutL r x l)
theorem pos_le (f : S35 → S35 → Bool) (x : S35) (m : List S35) : pos f x m ≤ m.length := by
  unfold pos
  split
  · exact Nat.le_refl _
  · rename_i h
    unfold idxI at h ⊢
    cases hf : m.findIdx? (f x) with
    | none => simp
    | some i => have := (List.findIdx?_eq_some_iff_getElem.1 hf).1; simp; omega
theorem Boxed.fr {w W W' : World} {pc pv hb z : Nat} {row : Option Nat} {x : S35} (h : Boxed w W pc pv hb x) (f : Fr W W' z row) (hne : pc ≠ z ∧ pv ≠ z) (hr : some pc ≠ row ∧ some pv ≠ row) (hz : w.heap.size ≤ z ∨ True) :
    Nat.lt pc W'.heap.size ∧ W'.cell? ⟨pc, 0, none⟩ = some (.pointer (some ⟨hb, 0, none⟩)) ∧ W'.cell? ⟨pv, 0, none⟩ = some (.int .i64 x.f0) ∧ W'.cell? ⟨pv, 1, none⟩ = some (.int .i64 x.f1) := by
  exact ⟨Nat.lt_of_lt_of_le h.lc f.size, (fr_cell f (p := ⟨pc, 0, none⟩) h.lc hne.1 hr.1).trans h.cc, (fr_cell f (p := ⟨pv, 0, none⟩) h.lv (fun e => hne.2 e) hr.2).trans h.cv.1, (fr_cell f (p := ⟨pv, 1, none⟩) h.lv (fun e => hne.2 e) hr.2).trans h.cv.2⟩
theorem own_cur {B : Nat} {w w' : World} {g c : Nat} {l l' : List S35} {cur cur' : Array Value} (ho : Own B w (.slice (some ⟨g, 0, none⟩) l.length c) l.length l) (hc : w.heap[g]? = some (.cells cur 35 (0, 0))) (hs : cur'.size = cur.size) (hl : l'.length = l.length)
    (hn : w'.heap[g]? = some (.cells cur' 35 (0, 0))) (ht : cur'.toList.take (l.length * 2) = flat l') : Own B w' (.slice (some ⟨g, 0, none⟩) l.length c) l.length l' := by
  rcases ho.2 with ⟨h1, _⟩ | ⟨g', cap, cs, hv, hB, hh, hcc, hm, hss, htt⟩
  · cases h1
  · injection hv with h1 h2 h3
    injection h1 with h1
    injection h1 with h1
    subst h1; subst h3
    rw [hh] at hc
    injection hc with hc
    injection hc with hc
    subst hc
    exact ⟨by rw [flat_length, hl], .inr ⟨g, c, cur', rfl, hB, hn, hcc, hm, by rw [hs]; exact hss, ht⟩⟩
theorem own_row {B : Nat} {w : World} {g n c : Nat} {l : List S35} (ho : Own B w (.slice (some ⟨g, 0, none⟩) n c) n l) : ∃ cur, w.heap[g]? = some (.cells cur 35 (0, 0)) ∧ n ≤ c ∧ c ≤ maxLen ∧ cur.size = c * 2 ∧ cur.toList.take (n * 2) = flat l := by
  rcases ho.2 with ⟨h1, _⟩ | ⟨g', cap, cs, hv, hB, hh, hcc, hm, hss, htt⟩
  · cases h1
  · injection hv with h1 h2 h3
    injection h1 with h1
    injection h1 with h1
    subst h1; subst h3
    exact ⟨cs, hh, hcc, hm, hss, htt⟩
theorem idxI_lt {p : S35 → Bool} {l : List S35} (h : 0 ≤ idxI p l) : idxI p l < (l.length : Int) := by
  unfold idxI at h ⊢
  cases hf : l.findIdx? p with
  | none => rw [hf] at h; simp at h
  | some i => have := (List.findIdx?_eq_some_iff_getElem.1 hf).1; simp; omega
/-- What has come to stand behind the append. -/
structure Aft (B : Nat) (w W : World) (pc pv hb fb ff : Nat) (row : Option Nat) (x : S35) (m : List S35) (g c : Nat) : Prop where
  ch : Chain B W hb fb ff (.slice (some ⟨g, 0, none⟩) m.length c) m
  fr : Fr w W hb row
  ow : row = some g ∨ w.heap.size ≤ g
  lc : pc < W.heap.size
  lv : pv < W.heap.size
  cc : W.cell? ⟨pc, 0, none⟩ = some (.pointer (some ⟨hb, 0, none⟩))
  cv : W.cell? ⟨pv, 0, none⟩ = some (.int .i64 x.f0) ∧ W.cell? ⟨pv, 1, none⟩ = some (.int .i64 x.f1)
  np : pc ≠ g
  nv : pv ≠ g
  nh : hb ≠ g
theorem fr_setRow2 {w0 w : World} {g hb : Nat} {row : Option Nat} (h : Fr w0 w hb row) (hg : row = some g ∨ w0.heap.size ≤ g) (cs : Array Value) : Fr w0 (w.setRow g cs) hb row :=
  ⟨h.os, h.tape, h.output, by simpa [World.setRow] using h.size, fun k hk hn hr => (setRow_other w g k cs (by rintro rfl; rcases hg with hg | hg; exact hr hg.symm; omega)).trans (h.block k hk hn hr)⟩
theorem Aft.drew {B : Nat} {w W : World} {pc pv hb fb ff : Nat} {row : Option Nat} {x : S35} {m : List S35} {g c : Nat} (A : Aft B w W pc pv hb fb ff row x m g c) : Aft B w W.drew pc pv hb fb ff row x m g c :=
  ⟨⟨A.ch.base, A.ch.blk, A.ch.own⟩, A.fr.drew, A.ow, A.lc, A.lv, A.cc, A.cv, A.np, A.nv, A.nh⟩
theorem drop_cells {m : List S35} {y : List S35} {p : Nat} {cur : Array Value} {n : Nat} (ht : cur.toList.take n = flat (m ++ y)) (j : Nat) (v : Value) (h : (flat (m.drop p))[j]? = some v) (hp : p ≤ m.length) : cur[p * 2 + j]? = some v := by
  have e : flat (m ++ y) = flat (m.take p) ++ (flat (m.drop p) ++ flat y) := by rw [← flat_append, ← flat_append, ← List.append_assoc, List.take_append_drop]
  have hl : (flat (m.take p)).length = p * 2 := by rw [flat_length, List.length_take, Nat.min_eq_left hp]
  have hj := (List.getElem?_eq_some_iff.1 h).1
  have h1 : (cur.toList.take n)[p * 2 + j]? = some v := by
    rw [ht, e, List.getElem?_append_right (by omega), hl, Nat.add_sub_cancel_left, List.getElem?_append_left hj]
    exact h
  have h2 := (List.getElem?_eq_some_iff.1 h1).1
  rw [List.getElem?_take_of_lt (by simp at h2; omega)] at h1
  simpa using h1
theorem Aft.copy {B : Nat} {w W : World} {pc pv hb fb ff : Nat} {row : Option Nat} {x : S35} {m : List S35} {g c p : Nat} {cur : Array Value} (A : Aft B w W pc pv hb fb ff row x (m ++ [x]) g c) (hp : p < m.length) (hcur : W.heap[g]? = some (.cells cur 35 (0, 0)))
    (hs : (m.length + 1) * 2 ≤ cur.size) (ht : cur.toList.take ((m.length + 1) * 2) = flat (m ++ [x])) :
    Aft B w (W.setRow g (cur.toList.take ((p + 1) * 2) ++ flat (m.drop p) ++ cur.toList.drop ((p + 1) * 2 + (flat (m.drop p)).length)).toArray) pc pv hb fb ff row x (m.take (p + 1) ++ m.drop p) g c := by
  have hfl : (flat (m.drop p)).length = (m.length - p) * 2 := by rw [flat_length, List.length_drop]
  have hsum : (p + 1) * 2 + (m.length - p) * 2 = (m.length + 1) * 2 := by rw [← Nat.add_mul]; congr 1; omega
  have h1 : cur.toList.take ((p + 1) * 2) = flat (m.take (p + 1)) := by
    have : cur.toList.take ((p + 1) * 2) = (cur.toList.take ((m.length + 1) * 2)).take ((p + 1) * 2) := by
      rw [List.take_take]; congr 1; omega
    rw [this, ht, ← flat_take, List.take_append_of_le_length (by omega)]
  have hlen : (m.take (p + 1) ++ m.drop p).length = (m ++ [x]).length := by simp; omega
  have e1 : (m ++ [x]).length = m.length + 1 := by simp
  have hl1 : (cur.toList.take ((p + 1) * 2)).length = (p + 1) * 2 := by rw [List.length_take]; simp; omega
  have ho := own_cur (l' := m.take (p + 1) ++ m.drop p) A.ch.own hcur (cur' := (cur.toList.take ((p + 1) * 2) ++ flat (m.drop p) ++ cur.toList.drop ((p + 1) * 2 + (flat (m.drop p)).length)).toArray) (by rw [hfl]; simp; omega) hlen (setRow_heap W g cur _ 35 _ hcur)
    (by rw [e1, List.toList_toArray, List.take_left' (by rw [List.length_append, hl1, hfl, hsum]), h1, flat_append])
  refine ⟨⟨A.ch.base, ?_, ?_⟩, fr_setRow2 A.fr A.ow _, A.ow, by simpa [World.setRow] using A.lc, by simpa [World.setRow] using A.lv, (World.cell?_of_block (a := ⟨pc, 0, none⟩) (setRow_other W g pc _ A.np)).trans A.cc, ⟨(World.cell?_of_block (a := ⟨pv, 0, none⟩) (setRow_other W g pv _ A.nv)).trans A.cv.1, (World.cell?_of_block (a := ⟨pv, 1, none⟩) (setRow_other W g pv _ A.nv)).trans A.cv.2⟩, A.np, A.nv, A.nh⟩
  · rw [setRow_other W g hb _ A.nh, hlen]; exact A.ch.blk
  · rw [hlen]; exact ho
theorem Aft.set {B : Nat} {w W : World} {pc pv hb fb ff : Nat} {row : Option Nat} {x : S35} {l : List S35} {g c : Nat} (A : Aft B w W pc pv hb fb ff row x l g c) (p : Nat) :
    Aft B w ((W.setCell ⟨g, p * 2, none⟩ (.int .i64 x.f0)).setCell ⟨g, p * 2 + 1, none⟩ (.int .i64 x.f1)) pc pv hb fb ff row x (l.set p x) g c := by
  have hgg : ∀ j, (⟨g, j, none⟩ : Addr).block = hb ∨ some (⟨g, j, none⟩ : Addr).block = row ∨ w.heap.size ≤ (⟨g, j, none⟩ : Addr).block := fun j => by
    rcases A.ow with h | h
    · exact .inr (.inl h.symm)
    · exact .inr (.inr h)
  refine ⟨⟨A.ch.base, ?_, ?_⟩, (A.fr.setCell (p := ⟨g, p * 2, none⟩) (hgg _) _).setCell (p := ⟨g, p * 2 + 1, none⟩) (hgg _) _, A.ow, by simpa [World.setCell] using A.lc, by simpa [World.setCell] using A.lv, ((cell_set_ne (p := ⟨pc, 0, none⟩) (q := ⟨g, p * 2 + 1, none⟩) A.np _).trans (cell_set_ne (p := ⟨pc, 0, none⟩) (q := ⟨g, p * 2, none⟩) A.np _)).trans A.cc, ⟨((cell_set_ne (p := ⟨pv, 0, none⟩) (q := ⟨g, p * 2 + 1, none⟩) A.nv _).trans (cell_set_ne (p := ⟨pv, 0, none⟩) (q := ⟨g, p * 2, none⟩) A.nv _)).trans A.cv.1, ((cell_set_ne (p := ⟨pv, 1, none⟩) (q := ⟨g, p * 2 + 1, none⟩) A.nv _).trans (cell_set_ne (p := ⟨pv, 1, none⟩) (q := ⟨g, p * 2, none⟩) A.nv _)).trans A.cv.2⟩, A.np, A.nv, A.nh⟩
  · rw [List.length_set]; exact blk_far (blk_far A.ch.blk A.nh _) A.nh _
  · have := own_set A.ch.own p x
    rw [List.length_set]
    exact this
theorem ins_lt {m : List S35} {p : Nat} (x : S35) (hp : p < m.length) : (m.take (p + 1) ++ m.drop p).set p x = insAt p x m := by
  unfold insAt
  have h1 : m.take (p + 1) = m.take p ++ [m[p]] := List.take_succ_eq_append_getElem hp
  have hl : (m.take p).length = p := by rw [List.length_take]; omega
  rw [h1, List.append_assoc, List.set_append_right _ _ (by omega), hl, Nat.sub_self]
  rfl
theorem ins_eq {m : List S35} {p : Nat} (x : S35) (hp : p = m.length) : (m ++ [x]).set p x = insAt p x m := by
  subst hp
  unfold insAt
  simp

set_option maxRecDepth 100000 in
set_option maxHeartbeats 4000000 in
theorem insert_c {fb ff : Nat} {r f : S35 → S35 → Bool} (hr : Rel fb r) (hf : Rel ff f) {B : Nat} {w : World} {hb : Nat} {v : Value} {l : List S35} (H : Chain B w hb fb ff v l) (x : S35) (hB : B ≤ w.heap.size) (hl : (l.length + 1) * 16 ≤ 140737488355328) :
    Calls Try.prog 11 #[.pointer (some ⟨hb, 0, none⟩), vt x] w fun e w' => e = .returned (.bool (!(l.any (fun y => r y x)))) ∧ ∃ v', Chain B w' hb fb ff v' (insertL r f x l) ∧ Fr w w' hb v.ownBlock ∧ (v'.ownBlock = v.ownBlock ∨ ∃ b, v'.ownBlock = some b ∧ w.heap.size ≤ b) := by
  obtain ⟨i0, hi0, hz0, hz1, hz2⟩ := info_parts info
  have hX := boxed w hb x
  have H1 := H.below hX.be
  have hlt := blk_lt H.blk
  have hrow : ∀ k, w.heap.size ≤ k → some k ≠ v.ownBlock := fun k hk e => by have := (H.own.lt k e.symm).2; omega
  obtain ⟨pc, hpc⟩ : ∃ pc, pc = w.heap.size := ⟨_, rfl⟩
  obtain ⟨pv, hpv⟩ : ∃ pv, pv = w.heap.size + 1 := ⟨_, rfl⟩
  have hll : l.length ≤ 140737488355328 := by omega
  cases hany : l.any (fun y => r y x) with
  | true =>
    have e0 : insertL r f x l = l := by unfold insertL; rw [hany]; rfl
    rw [e0]
    have HA := Lib.hid hany
    clear e0 hany
    obtain ⟨x0, x1⟩ := x
    go_enter Try.func11, Try.ntmps11
    go_upto_region 1 with fail
    simp only [ct] at hX H1
    rw [← hpv, ← hpc] at hX
    rw [← hpv, ← hpc]
    generalize ((w.alloc (.cells #[.pointer (some ⟨hb, 0, none⟩)] 25)).alloc (.cells #[.int .i64 x0, .int .i64 x1] 35)) = W1 at *
    have hc0 := hX.cc
    obtain ⟨q0, q1⟩ := hX.cv
    have hcv := covers_c hr H1 ⟨x0, x1⟩
    rw [HA.out] at hcv
    have HX := Lib.hid hX
    have HH1 := Lib.hid H1
    clear hX H1 hpc hpv
    go_wp2_with (go_at_call 14; refine hcv.mono ?_; rintro e w2 ⟨rfl, b2⟩)
    go_ret
    exact ⟨rfl, v, HH1.out.below b2, Fr.of_below (HX.out.be.trans (b2.mono HX.out.be.size)) hb _, .inl rfl⟩
  | false =>
    have e0 : insertL r f x l = insAt (pos f x (cutL r x l)) x (cutL r x l) := by unfold insertL; rw [hany]; rfl
    rw [e0]
    have HA := Lib.hid hany
    have hcl : (cutL r x l).length ≤ l.length := List.length_filter_le _ _
    have hps := pos_le f x (cutL r x l)
    clear e0 hany
    obtain ⟨m, hm⟩ : ∃ m, m = cutL r x l := ⟨_, rfl⟩
    rw [← hm] at hcl hps ⊢
    have HM := Lib.hid hm
    clear hm
    obtain ⟨p, hp⟩ : ∃ p, p = pos f x m := ⟨_, rfl⟩
    rw [← hp] at hps ⊢
    have HP := Lib.hid hp
    clear hp
    obtain ⟨x0, x1⟩ := x
    go_enter Try.func11, Try.ntmps11
    go_upto_region 1 with fail
    simp only [ct] at hX H1
    rw [← hpv, ← hpc] at hX
    rw [← hpv, ← hpc]
    generalize ((w.alloc (.cells #[.pointer (some ⟨hb, 0, none⟩)] 25)).alloc (.cells #[.int .i64 x0, .int .i64 x1] 35)) = W1 at *
    have hc0 := hX.cc
    obtain ⟨q0, q1⟩ := hX.cv
    have hcv := covers_c hr H1 ⟨x0, x1⟩
    rw [HA.out] at hcv
    have HX := Lib.hid hX
    have HH1 := Lib.hid H1
    clear hX H1 hpc hpv
    go_upto_region 3 with (go_at_call 14; refine hcv.mono ?_; rintro e w2 ⟨rfl, b2⟩)
    have hX2 := HX.out.then b2
    have H2 := HH1.out.below b2
    clear hcv hc0 q0 q1 HX HH1 b2
    have hct := cut_c hr H2 ⟨x0, x1⟩ hll
    have hc0 := hX2.cc
    obtain ⟨q0, q1⟩ := hX2.cv
    obtain ⟨cz, hcz⟩ : ∃ cz : Int, cz = (l.length : Int) - ((cutL r ⟨x0, x1⟩ l).length : Int) := ⟨_, rfl⟩
    rw [← hcz] at hct
    clear hcz
    have hgc := hX2.gc
    have hgv := hX2.gv
    have HX2 := Lib.hid hX2
    have HBe := Lib.hid hX2.be
    clear hX2 H2
    go_upto_region 4 with (go_at_call 16; refine hct.mono ?_; rintro e w3 ⟨rfl, v3, H3, F3, q3⟩)
    rw [show cutL r ⟨x0, x1⟩ l = m from HM.out.symm] at H3
    have hx3 := HX2.out.fr F3 ⟨by omega, by omega⟩ ⟨hrow pc hgc, hrow pv hgv⟩ (.inr trivial)
    have FW3 : Fr w w3 hb v.ownBlock := (Fr.of_below HBe.out hb _).trans F3 (.inl rfl)
    clear hc0 q0 q1 HX2 hct F3 HBe
    obtain ⟨hlc3, hc0, q0, q1⟩ := hx3
    obtain ⟨a, c, rfl⟩ := H3.shape
    have hc2 := blk_cell H3.blk 2
    simp at hc2
    have hix := idx_c (ins_p hf pc pv hb ⟨x0, x1⟩) (I := I_ins pc pv hb ff ⟨x0, x1⟩) (fun W W' h b => by
      obtain ⟨h0, h10, h11, h2⟩ := h
      have l0 := World.block_lt_of_cell? W _ h0
      have l1 := World.block_lt_of_cell? W _ h10
      have l2 := World.block_lt_of_cell? W _ h2
      exact ⟨(b.cell l0).trans h0, (b.cell (p := ⟨pv, 0, none⟩) l1).trans h10, (b.cell (p := ⟨pv, 1, none⟩) l1).trans h11, (b.cell l2).trans h2⟩) H3.own ⟨hc0, q0, q1, (blk_cell H3.blk 1)⟩
    have hlo := idxI_lo (fun y => f ⟨x0, x1⟩ y) m
    obtain ⟨z, hz⟩ : ∃ z, z = idxI (fun y => f ⟨x0, x1⟩ y) m := ⟨_, rfl⟩
    rw [← hz] at hix hlo
    have hpz : (p : Int) = if z < 0 then (m.length : Int) else z := by
      rw [HP.out, hz]; unfold pos; change _ = if idxI (f ⟨x0, x1⟩) m < 0 then _ else idxI (f ⟨x0, x1⟩) m; split <;> omega
    have HZ := Lib.hid hz
    clear hz
    obtain ⟨n, hn⟩ : ∃ n, n = m.length := ⟨_, rfl⟩
    have HN := Lib.hid hn
    rw [← hn] at hc2 hix hcl hps hpz
    clear hn
    have H3 := Lib.hid H3
    have FW3 := Lib.hid FW3
    go_upto_region 5 with (go_at_call 47; refine hix.mono ?_; rintro e w4 ⟨rfl, b4⟩)
    have H4 := H3.out.below b4
    have FW4 := FW3.out.then_below b4
    have hc4 := (b4.cell (p := ⟨pc, 0, none⟩) hlc3).trans hc0
    have q40 := (b4.cell (p := ⟨pv, 0, none⟩) (World.block_lt_of_cell? w3 _ q0)).trans q0; have q41 := (b4.cell (p := ⟨pv, 1, none⟩) (World.block_lt_of_cell? w3 _ q1)).trans q1
    have hlc4 := World.block_lt_of_cell? w4 _ hc4
    have hlv4 := World.block_lt_of_cell? w4 _ q40
    simp only at hlc4 hlv4
    have hc24 := blk_cell H4.blk 2
    simp at hc24
    rw [← HN.out] at hc24
    clear hc0 hc2 q0 q1 b4 H3 FW3 hix
    have b5 : Below w4.heap.size w4 (w4.alloc (.cells #[.int .i64 x0, .int .i64 x1] 35)).drew := ((Below.refl _ _).alloc (Nat.le_refl _) _).drew
    have lit : Reads (w4.alloc (.cells #[.int .i64 x0, .int .i64 x1] 35)).drew (w4.heap.size + 1) 2 (some ⟨w4.heap.size, 0, none⟩) 1 (flat [⟨x0, x1⟩]) := by
      have hh := World.ownsRow_lit (base := 0) (e := 35) (size := 2) w4 #[.int .i64 x0, .int .i64 x1] 1 (by omega) (by decide) (by rfl)
      have := Reads.of_own (xs := flat [⟨x0, x1⟩]) (by simpa [flat, ct] using hh)
      simpa using this.drew
    have H5 := H4.below b5
    have FW5 := FW4.then_below b5
    have hc5 := (b5.cell (p := ⟨pc, 0, none⟩) hlc4).trans hc4
    have q50 := (b5.cell (p := ⟨pv, 0, none⟩) hlv4).trans q40; have q51 := (b5.cell (p := ⟨pv, 1, none⟩) hlv4).trans q41
    have hq3 : ∀ k, w.heap.size ≤ k → some k ≠ (Value.slice a m.length c).ownBlock := fun k hk => by rw [q3]; exact hrow k hk
    have hlt4 := blk_lt H4.blk
    have hnr := H4.not_row
    have hsz5 := b5.size
    have O5 := H5.own
    have f1 := flat_one [⟨x0, x1⟩]
    have HQ3 := Lib.hid q3
    have FW5 := Lib.hid FW5
    have H5 := Lib.hid H5
    have HL := Lib.hid hl
    have hn1 : (n + 1) * 16 ≤ 140737488355328 := by omega
    have hszE : (Try.prog.info? 35).map (·.size) = some 2 := by rw [hi0]; simp [hz1]
    have FWS : w.heap.size ≤ w4.heap.size := FW4.size
    rw [← HN.out] at O5 hnr hq3
    have e1 : (m ++ ([⟨x0, x1⟩] : List S35)).length = n + 1 := by have := HN.out; simp; omega
    clear b5 H4 FW4 hl q3
    have hzl : 0 ≤ z → z < (n : Int) := fun h => by rw [HZ.out] at h ⊢; rw [HN.out]; exact idxI_lt h
    clear HZ
    by_cases hz0 : z < 0
    · have hpn : p = n := by rw [if_pos hz0] at hpz; omega
      obtain rfl : z = -1 := by omega
      subst hpn
      clear hpz hzl hlo hz0
      go_upto_region 7 with fail
      go_cut [36] (fun s wx => ∃ g c7, Aft B w wx pc pv hb fb ff v.ownBlock ⟨x0, x1⟩ (m ++ ([⟨x0, x1⟩] : List S35)) g c7)
      case first =>
        refine wp_region_held_drew (S := fun w' => w'.cell? ⟨pc, 0, none⟩ = some (.pointer (some ⟨hb, 0, none⟩)) ∧ w'.cell? ⟨pv, 0, none⟩ = some (.int .i64 x0) ∧ w'.cell? ⟨pv, 1, none⟩ = some (.int .i64 x1)) (by kernel_rfl) ⟨hc4, q40, q41⟩ (fun hHeld => ?_)
        refine take_d (v := ?_) 0 29 rfl rfl (by kernel_rfl) (by kernel_rfl) (by kernel_rfl) (fun _ _ _ h => h) (by kernel_rfl) ?_ (by assumption) ?_
        rotate_left
        · (intro w hSw; (try dsimp only at hSw); go_simp; first | done | with_reducible rfl)
        try simp only [Act.put, List.setIfInBounds_toArray, List.set_cons_zero, List.set_cons_succ]
        refine take_d (v := ?_) 1 30 rfl rfl (by kernel_rfl) (by kernel_rfl) (by kernel_rfl) (fun _ _ _ h => h) (by kernel_rfl) ?_ (by assumption) ?_
        rotate_left
        · (intro w hSw; (try dsimp only at hSw); go_simp; first | done | with_reducible rfl)
        try simp only [Act.put, List.setIfInBounds_toArray, List.set_cons_zero, List.set_cons_succ]
        refine take_d (v := ?_) 2 31 rfl rfl (by kernel_rfl) (by kernel_rfl) (by kernel_rfl) (fun _ _ _ h => h) (by kernel_rfl) ?_ (by assumption) ?_
        rotate_left
        · (intro w hSw; (try dsimp only at hSw); go_simp; first | done | with_reducible rfl)
        try simp only [Act.put, List.setIfInBounds_toArray, List.set_cons_zero, List.set_cons_succ]
        refine take_d (v := ?_) 3 32 rfl rfl (by kernel_rfl) (by kernel_rfl) (by kernel_rfl) (fun _ _ _ h => h) (by kernel_rfl) ?_ (by assumption) ?_
        rotate_left
        · (intro w hSw; (try dsimp only at hSw); go_simp; first | done | with_reducible rfl)
        try simp only [Act.put, List.setIfInBounds_toArray, List.set_cons_zero, List.set_cons_succ]
        refine take_d (v := ?_) 5 34 rfl rfl (by kernel_rfl) (by kernel_rfl) (by kernel_rfl) (fun _ _ _ h => h) (by kernel_rfl) ?_ (by assumption) ?_
        rotate_left
        · (intro w hSw; (try dsimp only at hSw); go_simp; first | done | with_reducible rfl)
        try simp only [Act.put, List.setIfInBounds_toArray, List.set_cons_zero, List.set_cons_succ]
        refine wpAnyH_ready (rs := [4, 6]) (by kernel_rfl) (by simp) ?_
        refine AllReadyH.cons rfl (fun K hK => ?_) (AllReadyH.cons rfl (fun K hK => ?_) AllReadyH.nil)
        · go_simp
          refine hK.out _ _ ⟨hc4, q40, q41⟩ (fun hHeld => ?_)
          clear hK K
          try simp only [Act.put, List.setIfInBounds_toArray, List.set_cons_zero, List.set_cons_succ]
          refine wpAnyH_ready (rs := [6]) (by kernel_rfl) (by simp) ?_
          refine AllReadyH.cons rfl (fun K hK => ?_) AllReadyH.nil
          go_simp
          skip
          go_wp2_with fail
          refine hK.out _ _ ⟨hc5, q50, q51⟩ (fun hHeld => ?_)
          clear hK K
          try simp only [Act.put, List.setIfInBounds_toArray, List.set_cons_zero, List.set_cons_succ]
          refine wpAnyH_ready (rs := [7]) (by kernel_rfl) (by simp) ?_
          refine AllReadyH.cons rfl (fun K hK => ?_) AllReadyH.nil
          (refine step_append_any _ rfl (.tmp 33) (.tmp 35) _ rfl B 35 i0 _ 2 16 Try.underlying29 hi0 hz0 hz1 hz2 rfl (by omega) (.slice a p c) p (flat m) rfl O5 (w4.heap.size + 1) (some ⟨w4.heap.size, 0, none⟩) 1 1 (flat [⟨x0, x1⟩]) rfl lit f1 (by unfold maxLen; omega) hn1 (by simp; omega) ?_; intro v7 w7 hown7 hgrow7 hat7; have hown7b : Own B w7 v7 (p + 1) (m ++ ([⟨x0, x1⟩] : List S35)) := (by unfold Own; rw [flat_append]; exact hown7); obtain ⟨g, c7, hv7, hBg, hg7, hnc7, hm7⟩ := hown7b.form (by omega); clear hown7b; subst hv7; have hb7 := (hgrow7.block hb (by simp; omega) (Ne.symm hnr)).trans H5.out.blk; have c72 := blk_cell hb7 2; have z72 := blk_frozen hb7 2; simp at c72; have hc7 := (World.cell?_of_block (a := ⟨pc, 0, none⟩) (hgrow7.block pc (by simp; omega) (hq3 pc hgc))).trans hc5; have q70 := (World.cell?_of_block (a := ⟨pv, 0, none⟩) (hgrow7.block pv (by simp; omega) (hq3 pv hgv))).trans q50; have q71 := (World.cell?_of_block (a := ⟨pv, 1, none⟩) (hgrow7.block pv (by simp; omega) (hq3 pv hgv))).trans q51)
          refine hK.out _ _ ⟨hc7, q70, q71⟩ (fun hHeld => ?_)
          clear hK K
          try simp only [Act.put, List.setIfInBounds_toArray, List.set_cons_zero, List.set_cons_succ]
          refine take_d (v := ?_) 8 37 rfl rfl (by kernel_rfl) (by kernel_rfl) (by kernel_rfl) (fun _ _ _ h => h) (by kernel_rfl) ?_ (by assumption) ?_
          rotate_left
          · (intro w hSw; (try dsimp only at hSw); go_simp; first | done | with_reducible rfl)
          try simp only [Act.put, List.setIfInBounds_toArray, List.set_cons_zero, List.set_cons_succ]
          refine take_d (v := ?_) 9 38 rfl rfl (by kernel_rfl) (by kernel_rfl) (by kernel_rfl) (fun _ _ _ h => h) (by kernel_rfl) ?_ (by assumption) ?_
          rotate_left
          · (intro w hSw; (try dsimp only at hSw); go_simp; first | done | with_reducible rfl)
          try simp only [Act.put, List.setIfInBounds_toArray, List.set_cons_zero, List.set_cons_succ]
          refine wpAnyH_ready (rs := [10]) (by kernel_rfl) (by simp) ?_
          refine AllReadyH.cons rfl (fun K hK => ?_) AllReadyH.nil
          go_simp
          skip
          go_wp2_with fail
          refine hK.out _ _ ⟨(cell_set_ne (p := ⟨pc, 0, none⟩) (q := ⟨hb, 2, none⟩) (by simp; omega) _).trans hc7, (cell_set_ne (p := ⟨pv, 0, none⟩) (q := ⟨hb, 2, none⟩) (by simp; omega) _).trans q70, (cell_set_ne (p := ⟨pv, 1, none⟩) (q := ⟨hb, 2, none⟩) (by simp; omega) _).trans q71⟩ (fun hHeld => ?_)
          clear hK K
          try simp only [Act.put, List.setIfInBounds_toArray, List.set_cons_zero, List.set_cons_succ]
          refine wpAnyH_done (by kernel_rfl) ?_ _
          go_wp2_with fail
          have hown8 : Own B w7 (.slice (some ⟨g, 0, none⟩) (m ++ ([⟨x0, x1⟩] : List S35)).length c7) (m ++ ([⟨x0, x1⟩] : List S35)).length (m ++ ([⟨x0, x1⟩] : List S35)) := by unfold Own; rw [flat_append, e1]; exact hown7
          have hgh : g ≠ hb := by obtain ⟨cur, hh, _⟩ := own_row hown8; exact blk_ne hh hb7 (by decide)
          have F7 : Fr w w7 hb v.ownBlock := ⟨hgrow7.os.trans FW5.out.os, hgrow7.tape.trans FW5.out.tape, hgrow7.output.trans FW5.out.output, Nat.le_trans FW5.out.size hgrow7.size, fun k hk hg hr => (hgrow7.block k (Nat.lt_of_lt_of_le hk FW5.out.size) (by rw [HN.out, HQ3.out]; exact hr)).trans (FW5.out.block k hk hg hr)⟩
          have hP := H5.out.put (m := m ++ ([⟨x0, x1⟩] : List S35)) (hb7.trans H5.out.blk.symm) hown8 (by simp [Value.ownBlock, hgh])
          rw [e1] at hP
          have hng : ∀ k, k < w4.heap.size → some k ≠ (Value.slice a p c).ownBlock → k ≠ g := fun k hk hr => by rintro rfl; rcases hat7 with h | h; exact hr (by rw [← h]; rfl); simp [Value.ownBlock] at h; omega
          go_meet
          exact ⟨g, c7, by rw [e1]; exact hP, F7.setCell (.inl rfl) _, by rcases hat7 with h | h; exact .inl (by rw [← HQ3.out, ← HN.out, ← h]; rfl); exact .inr (by simp [Value.ownBlock] at h; omega), Nat.lt_of_lt_of_le (Nat.lt_of_lt_of_le hlc4 hsz5) (by simpa [World.setCell] using hgrow7.size), Nat.lt_of_lt_of_le (Nat.lt_of_lt_of_le hlv4 hsz5) (by simpa [World.setCell] using hgrow7.size), (cell_set_ne (p := ⟨pc, 0, none⟩) (q := ⟨hb, 2, none⟩) (by simp; omega) _).trans hc7, ⟨(cell_set_ne (p := ⟨pv, 0, none⟩) (q := ⟨hb, 2, none⟩) (by simp; omega) _).trans q70, (cell_set_ne (p := ⟨pv, 1, none⟩) (q := ⟨hb, 2, none⟩) (by simp; omega) _).trans q71⟩, hng pc hlc4 (hq3 pc hgc), hng pv hlv4 (hq3 pv hgv), Ne.symm hgh⟩
        · go_simp
          refine hK.out _ _ ⟨hc5, q50, q51⟩ (fun hHeld => ?_)
          clear hK K
          try simp only [Act.put, List.setIfInBounds_toArray, List.set_cons_zero, List.set_cons_succ]
          refine wpAnyH_ready (rs := [4]) (by kernel_rfl) (by simp) ?_
          refine AllReadyH.cons rfl (fun K hK => ?_) AllReadyH.nil
          go_simp
          skip
          go_wp2_with fail
          refine hK.out _ _ ⟨hc5, q50, q51⟩ (fun hHeld => ?_)
          clear hK K
          try simp only [Act.put, List.setIfInBounds_toArray, List.set_cons_zero, List.set_cons_succ]
          refine wpAnyH_ready (rs := [7]) (by kernel_rfl) (by simp) ?_
          refine AllReadyH.cons rfl (fun K hK => ?_) AllReadyH.nil
          (refine step_append_any _ rfl (.tmp 33) (.tmp 35) _ rfl B 35 i0 _ 2 16 Try.underlying29 hi0 hz0 hz1 hz2 rfl (by omega) (.slice a p c) p (flat m) rfl O5 (w4.heap.size + 1) (some ⟨w4.heap.size, 0, none⟩) 1 1 (flat [⟨x0, x1⟩]) rfl lit f1 (by unfold maxLen; omega) hn1 (by simp; omega) ?_; intro v7 w7 hown7 hgrow7 hat7; have hown7b : Own B w7 v7 (p + 1) (m ++ ([⟨x0, x1⟩] : List S35)) := (by unfold Own; rw [flat_append]; exact hown7); obtain ⟨g, c7, hv7, hBg, hg7, hnc7, hm7⟩ := hown7b.form (by omega); clear hown7b; subst hv7; have hb7 := (hgrow7.block hb (by simp; omega) (Ne.symm hnr)).trans H5.out.blk; have c72 := blk_cell hb7 2; have z72 := blk_frozen hb7 2; simp at c72; have hc7 := (World.cell?_of_block (a := ⟨pc, 0, none⟩) (hgrow7.block pc (by simp; omega) (hq3 pc hgc))).trans hc5; have q70 := (World.cell?_of_block (a := ⟨pv, 0, none⟩) (hgrow7.block pv (by simp; omega) (hq3 pv hgv))).trans q50; have q71 := (World.cell?_of_block (a := ⟨pv, 1, none⟩) (hgrow7.block pv (by simp; omega) (hq3 pv hgv))).trans q51)
          refine hK.out _ _ ⟨hc7, q70, q71⟩ (fun hHeld => ?_)
          clear hK K
          try simp only [Act.put, List.setIfInBounds_toArray, List.set_cons_zero, List.set_cons_succ]
          refine take_d (v := ?_) 8 37 rfl rfl (by kernel_rfl) (by kernel_rfl) (by kernel_rfl) (fun _ _ _ h => h) (by kernel_rfl) ?_ (by assumption) ?_
          rotate_left
          · (intro w hSw; (try dsimp only at hSw); go_simp; first | done | with_reducible rfl)
          try simp only [Act.put, List.setIfInBounds_toArray, List.set_cons_zero, List.set_cons_succ]
          refine take_d (v := ?_) 9 38 rfl rfl (by kernel_rfl) (by kernel_rfl) (by kernel_rfl) (fun _ _ _ h => h) (by kernel_rfl) ?_ (by assumption) ?_
          rotate_left
          · (intro w hSw; (try dsimp only at hSw); go_simp; first | done | with_reducible rfl)
          try simp only [Act.put, List.setIfInBounds_toArray, List.set_cons_zero, List.set_cons_succ]
          refine wpAnyH_ready (rs := [10]) (by kernel_rfl) (by simp) ?_
          refine AllReadyH.cons rfl (fun K hK => ?_) AllReadyH.nil
          go_simp
          skip
          go_wp2_with fail
          refine hK.out _ _ ⟨(cell_set_ne (p := ⟨pc, 0, none⟩) (q := ⟨hb, 2, none⟩) (by simp; omega) _).trans hc7, (cell_set_ne (p := ⟨pv, 0, none⟩) (q := ⟨hb, 2, none⟩) (by simp; omega) _).trans q70, (cell_set_ne (p := ⟨pv, 1, none⟩) (q := ⟨hb, 2, none⟩) (by simp; omega) _).trans q71⟩ (fun hHeld => ?_)
          clear hK K
          try simp only [Act.put, List.setIfInBounds_toArray, List.set_cons_zero, List.set_cons_succ]
          refine wpAnyH_done (by kernel_rfl) ?_ _
          go_wp2_with fail
          have hown8 : Own B w7 (.slice (some ⟨g, 0, none⟩) (m ++ ([⟨x0, x1⟩] : List S35)).length c7) (m ++ ([⟨x0, x1⟩] : List S35)).length (m ++ ([⟨x0, x1⟩] : List S35)) := by unfold Own; rw [flat_append, e1]; exact hown7
          have hgh : g ≠ hb := by obtain ⟨cur, hh, _⟩ := own_row hown8; exact blk_ne hh hb7 (by decide)
          have F7 : Fr w w7 hb v.ownBlock := ⟨hgrow7.os.trans FW5.out.os, hgrow7.tape.trans FW5.out.tape, hgrow7.output.trans FW5.out.output, Nat.le_trans FW5.out.size hgrow7.size, fun k hk hg hr => (hgrow7.block k (Nat.lt_of_lt_of_le hk FW5.out.size) (by rw [HN.out, HQ3.out]; exact hr)).trans (FW5.out.block k hk hg hr)⟩
          have hP := H5.out.put (m := m ++ ([⟨x0, x1⟩] : List S35)) (hb7.trans H5.out.blk.symm) hown8 (by simp [Value.ownBlock, hgh])
          rw [e1] at hP
          have hng : ∀ k, k < w4.heap.size → some k ≠ (Value.slice a p c).ownBlock → k ≠ g := fun k hk hr => by rintro rfl; rcases hat7 with h | h; exact hr (by rw [← h]; rfl); simp [Value.ownBlock] at h; omega
          go_meet
          exact ⟨g, c7, by rw [e1]; exact hP, F7.setCell (.inl rfl) _, by rcases hat7 with h | h; exact .inl (by rw [← HQ3.out, ← HN.out, ← h]; rfl); exact .inr (by simp [Value.ownBlock] at h; omega), Nat.lt_of_lt_of_le (Nat.lt_of_lt_of_le hlc4 hsz5) (by simpa [World.setCell] using hgrow7.size), Nat.lt_of_lt_of_le (Nat.lt_of_lt_of_le hlv4 hsz5) (by simpa [World.setCell] using hgrow7.size), (cell_set_ne (p := ⟨pc, 0, none⟩) (q := ⟨hb, 2, none⟩) (by simp; omega) _).trans hc7, ⟨(cell_set_ne (p := ⟨pv, 0, none⟩) (q := ⟨hb, 2, none⟩) (by simp; omega) _).trans q70, (cell_set_ne (p := ⟨pv, 1, none⟩) (q := ⟨hb, 2, none⟩) (by simp; omega) _).trans q71⟩, hng pc hlc4 (hq3 pc hgc), hng pv hlv4 (hq3 pv hgv), Ne.symm hgh⟩
      case rest =>
      obtain ⟨g, c7, HA7⟩ := hcut
      clear O5 H5 FW5 lit hc5 hc4 hc24 q40 q50 q41 q51
      go_upto_region 8 with fail
      have hc8 := HA7.cc
      have c82 := blk_cell HA7.ch.blk 2
      rw [e1] at c82
      simp at c82
      have ob8 : Own B wc (.slice (some ⟨g, 0, none⟩) (m ++ ([⟨x0, x1⟩] : List S35)).length c7) (m ++ ([⟨x0, x1⟩] : List S35)).length (m ++ ([⟨x0, x1⟩] : List S35)) := HA7.ch.own
      obtain ⟨cur, hcur, hnc7, hm7, hs7, ht7⟩ := own_row ob8
      rw [e1] at hnc7 ht7
      unfold maxLen at hm7
      have HA := Lib.hid HA7
      clear HA7
      have hw1 : IntKind.i64.wrap ((p : Int) + 1) = (p : Int) + 1 := IntWalk.i64_in _ ⟨by omega, by omega⟩
      have g0 : (0 : Int) ≤ (p : Int) + 1 := by omega
      have g1 : (p : Int) + 1 ≤ (p : Int) + 1 := by omega
      have g2 : (p : Int) ≤ (p : Int) + 1 := by omega
      have g3 : ¬ c7 = p := by omega
      go_cut [52] (fun s wx => Aft B w wx pc pv hb fb ff v.ownBlock ⟨x0, x1⟩ (m ++ ([⟨x0, x1⟩] : List S35)) g c7)
      case first =>
        by_cases hcap : c7 = p + 1
        · skip
          refine wp_region_held_drew (S := fun w' => w'.cell? ⟨pc, 0, none⟩ = some (.pointer (some ⟨hb, 0, none⟩)) ∧ w'.cell? ⟨hb, 2, none⟩ = some (.slice (some ⟨g, 0, none⟩) (p + 1) c7)) (by kernel_rfl) ⟨hc8, c82⟩ (fun hHeld => ?_)
          refine take_d (v := ?_) 0 39 rfl rfl (by kernel_rfl) (by kernel_rfl) (by kernel_rfl) (fun _ _ _ h => h) (by kernel_rfl) ?_ (by assumption) ?_
          rotate_left
          · (intro w hSw; (try dsimp only at hSw); go_simp; first | done | with_reducible rfl)
          try simp only [Act.put, List.setIfInBounds_toArray, List.set_cons_zero, List.set_cons_succ]
          refine take_d (v := ?_) 1 40 rfl rfl (by kernel_rfl) (by kernel_rfl) (by kernel_rfl) (fun _ _ _ h => h) (by kernel_rfl) ?_ (by assumption) ?_
          rotate_left
          · (intro w hSw; (try dsimp only at hSw); go_simp; first | done | with_reducible rfl)
          try simp only [Act.put, List.setIfInBounds_toArray, List.set_cons_zero, List.set_cons_succ]
          refine take_d (v := ?_) 2 41 rfl rfl (by kernel_rfl) (by kernel_rfl) (by kernel_rfl) (fun _ _ _ h => h) (by kernel_rfl) ?_ (by assumption) ?_
          rotate_left
          · (intro w hSw; (try dsimp only at hSw); go_simp; first | done | with_reducible rfl)
          try simp only [Act.put, List.setIfInBounds_toArray, List.set_cons_zero, List.set_cons_succ]
          refine take_d (v := ?_) 3 42 rfl rfl (by kernel_rfl) (by kernel_rfl) (by kernel_rfl) (fun _ _ _ h => h) (by kernel_rfl) ?_ (by assumption) ?_
          rotate_left
          · (intro w hSw; (try dsimp only at hSw); go_simp; first | done | with_reducible rfl)
          try simp only [Act.put, List.setIfInBounds_toArray, List.set_cons_zero, List.set_cons_succ]
          refine take_d (v := ?_) 4 43 rfl rfl (by kernel_rfl) (by kernel_rfl) (by kernel_rfl) (fun _ _ _ h => h) (by kernel_rfl) ?_ (by assumption) ?_
          rotate_left
          · (intro w hSw; (try dsimp only at hSw); go_simp; first | done | with_reducible rfl)
          try simp only [Act.put, List.setIfInBounds_toArray, List.set_cons_zero, List.set_cons_succ]
          refine take_d (v := ?_) 5 44 rfl rfl (by kernel_rfl) (by kernel_rfl) (by kernel_rfl) (fun _ _ _ h => h) (by kernel_rfl) ?_ (by assumption) ?_
          rotate_left
          · (intro w hSw; (try dsimp only at hSw); go_simp; first | done | with_reducible rfl)
          try simp only [Act.put, List.setIfInBounds_toArray, List.set_cons_zero, List.set_cons_succ]
          refine take_d (v := ?_) 6 45 rfl rfl (by kernel_rfl) (by kernel_rfl) (by kernel_rfl) (fun _ _ _ h => h) (by kernel_rfl) ?_ (by assumption) ?_
          rotate_left
          · (intro w hSw; (try dsimp only at hSw); go_simp; first | done | with_reducible rfl)
          try simp only [Act.put, List.setIfInBounds_toArray, List.set_cons_zero, List.set_cons_succ]
          refine take_d (v := ?_) 7 46 rfl rfl (by kernel_rfl) (by kernel_rfl) (by kernel_rfl) (fun _ _ _ h => h) (by kernel_rfl) ?_ (by assumption) ?_
          rotate_left
          · (intro w hSw; (try dsimp only at hSw); go_simp; first | done | with_reducible rfl)
          try simp only [Act.put, List.setIfInBounds_toArray, List.set_cons_zero, List.set_cons_succ]
          refine take_d (v := ?_) 8 47 rfl rfl (by kernel_rfl) (by kernel_rfl) (by kernel_rfl) (fun _ _ _ h => h) (by kernel_rfl) ?_ (by assumption) ?_
          rotate_left
          · (intro w hSw; (try dsimp only at hSw); go_simp; first | done | with_reducible rfl)
          try simp only [Act.put, List.setIfInBounds_toArray, List.set_cons_zero, List.set_cons_succ]
          refine take_d (v := ?_) 9 48 rfl rfl (by kernel_rfl) (by kernel_rfl) (by kernel_rfl) (fun _ _ _ h => h) (by kernel_rfl) ?_ (by assumption) ?_
          rotate_left
          · (intro w hSw; (try dsimp only at hSw); go_simp; first | done | with_reducible rfl)
          try simp only [Act.put, List.setIfInBounds_toArray, List.set_cons_zero, List.set_cons_succ]
          refine take_d (v := ?_) 10 49 rfl rfl (by kernel_rfl) (by kernel_rfl) (by kernel_rfl) (fun _ _ _ h => h) (by kernel_rfl) ?_ (by assumption) ?_
          rotate_left
          · (intro w hSw; (try dsimp only at hSw); go_simp; first | done | with_reducible rfl)
          try simp only [Act.put, List.setIfInBounds_toArray, List.set_cons_zero, List.set_cons_succ]
          refine take_d (v := ?_) 11 50 rfl rfl (by kernel_rfl) (by kernel_rfl) (by kernel_rfl) (fun _ _ _ h => h) (by kernel_rfl) ?_ (by assumption) ?_
          rotate_left
          · (intro w hSw; (try dsimp only at hSw); go_simp; first | done | with_reducible rfl)
          try simp only [Act.put, List.setIfInBounds_toArray, List.set_cons_zero, List.set_cons_succ]
          refine take_d (v := ?_) 12 51 rfl rfl (by kernel_rfl) (by kernel_rfl) (by kernel_rfl) (fun _ _ _ h => h) (by kernel_rfl) ?_ (by assumption) ?_
          rotate_left
          · (intro w hSw; (try dsimp only at hSw); go_simp; first | done | with_reducible rfl)
          try simp only [Act.put, List.setIfInBounds_toArray, List.set_cons_zero, List.set_cons_succ]
          refine wpAnyH_ready (rs := [13]) (by kernel_rfl) (by simp) ?_
          refine AllReadyH.cons rfl (fun K hK => ?_) AllReadyH.nil
          (refine step_copy_none_k rfl (.tmp 45) (.tmp 51) _ _ rfl 35 2 Try.underlying29 hszE _ _ _ _ _ _ rfl rfl (by simp) ?_; change K (Act.put _ (some 52) _) _)
          refine hK.out _ _ ⟨hc8, c82⟩ (fun hHeld => ?_)
          clear hK K
          try simp only [Act.put, List.setIfInBounds_toArray, List.set_cons_zero, List.set_cons_succ]
          refine wpAnyH_done (by kernel_rfl) ?_ _
          go_wp2_with fail
          go_meet
          exact HA.out.drew
        · skip
          refine wp_region_held_drew (S := fun w' => w'.cell? ⟨pc, 0, none⟩ = some (.pointer (some ⟨hb, 0, none⟩)) ∧ w'.cell? ⟨hb, 2, none⟩ = some (.slice (some ⟨g, 0, none⟩) (p + 1) c7)) (by kernel_rfl) ⟨hc8, c82⟩ (fun hHeld => ?_)
          refine take_d (v := ?_) 0 39 rfl rfl (by kernel_rfl) (by kernel_rfl) (by kernel_rfl) (fun _ _ _ h => h) (by kernel_rfl) ?_ (by assumption) ?_
          rotate_left
          · (intro w hSw; (try dsimp only at hSw); go_simp; first | done | with_reducible rfl)
          try simp only [Act.put, List.setIfInBounds_toArray, List.set_cons_zero, List.set_cons_succ]
          refine take_d (v := ?_) 1 40 rfl rfl (by kernel_rfl) (by kernel_rfl) (by kernel_rfl) (fun _ _ _ h => h) (by kernel_rfl) ?_ (by assumption) ?_
          rotate_left
          · (intro w hSw; (try dsimp only at hSw); go_simp; first | done | with_reducible rfl)
          try simp only [Act.put, List.setIfInBounds_toArray, List.set_cons_zero, List.set_cons_succ]
          refine take_d (v := ?_) 2 41 rfl rfl (by kernel_rfl) (by kernel_rfl) (by kernel_rfl) (fun _ _ _ h => h) (by kernel_rfl) ?_ (by assumption) ?_
          rotate_left
          · (intro w hSw; (try dsimp only at hSw); go_simp; first | done | with_reducible rfl)
          try simp only [Act.put, List.setIfInBounds_toArray, List.set_cons_zero, List.set_cons_succ]
          refine take_d (v := ?_) 3 42 rfl rfl (by kernel_rfl) (by kernel_rfl) (by kernel_rfl) (fun _ _ _ h => h) (by kernel_rfl) ?_ (by assumption) ?_
          rotate_left
          · (intro w hSw; (try dsimp only at hSw); go_simp; first | done | with_reducible rfl)
          try simp only [Act.put, List.setIfInBounds_toArray, List.set_cons_zero, List.set_cons_succ]
          refine take_d (v := ?_) 4 43 rfl rfl (by kernel_rfl) (by kernel_rfl) (by kernel_rfl) (fun _ _ _ h => h) (by kernel_rfl) ?_ (by assumption) ?_
          rotate_left
          · (intro w hSw; (try dsimp only at hSw); go_simp; first | done | with_reducible rfl)
          try simp only [Act.put, List.setIfInBounds_toArray, List.set_cons_zero, List.set_cons_succ]
          refine take_d (v := ?_) 5 44 rfl rfl (by kernel_rfl) (by kernel_rfl) (by kernel_rfl) (fun _ _ _ h => h) (by kernel_rfl) ?_ (by assumption) ?_
          rotate_left
          · (intro w hSw; (try dsimp only at hSw); go_simp; first | done | with_reducible rfl)
          try simp only [Act.put, List.setIfInBounds_toArray, List.set_cons_zero, List.set_cons_succ]
          refine take_d (v := ?_) 6 45 rfl rfl (by kernel_rfl) (by kernel_rfl) (by kernel_rfl) (fun _ _ _ h => h) (by kernel_rfl) ?_ (by assumption) ?_
          rotate_left
          · (intro w hSw; (try dsimp only at hSw); go_simp; first | done | with_reducible rfl)
          try simp only [Act.put, List.setIfInBounds_toArray, List.set_cons_zero, List.set_cons_succ]
          refine take_d (v := ?_) 7 46 rfl rfl (by kernel_rfl) (by kernel_rfl) (by kernel_rfl) (fun _ _ _ h => h) (by kernel_rfl) ?_ (by assumption) ?_
          rotate_left
          · (intro w hSw; (try dsimp only at hSw); go_simp; first | done | with_reducible rfl)
          try simp only [Act.put, List.setIfInBounds_toArray, List.set_cons_zero, List.set_cons_succ]
          refine take_d (v := ?_) 8 47 rfl rfl (by kernel_rfl) (by kernel_rfl) (by kernel_rfl) (fun _ _ _ h => h) (by kernel_rfl) ?_ (by assumption) ?_
          rotate_left
          · (intro w hSw; (try dsimp only at hSw); go_simp; first | done | with_reducible rfl)
          try simp only [Act.put, List.setIfInBounds_toArray, List.set_cons_zero, List.set_cons_succ]
          refine take_d (v := ?_) 9 48 rfl rfl (by kernel_rfl) (by kernel_rfl) (by kernel_rfl) (fun _ _ _ h => h) (by kernel_rfl) ?_ (by assumption) ?_
          rotate_left
          · (intro w hSw; (try dsimp only at hSw); go_simp; first | done | with_reducible rfl)
          try simp only [Act.put, List.setIfInBounds_toArray, List.set_cons_zero, List.set_cons_succ]
          refine take_d (v := ?_) 10 49 rfl rfl (by kernel_rfl) (by kernel_rfl) (by kernel_rfl) (fun _ _ _ h => h) (by kernel_rfl) ?_ (by assumption) ?_
          rotate_left
          · (intro w hSw; (try dsimp only at hSw); go_simp; first | done | with_reducible rfl)
          try simp only [Act.put, List.setIfInBounds_toArray, List.set_cons_zero, List.set_cons_succ]
          refine take_d (v := ?_) 11 50 rfl rfl (by kernel_rfl) (by kernel_rfl) (by kernel_rfl) (fun _ _ _ h => h) (by kernel_rfl) ?_ (by assumption) ?_
          rotate_left
          · (intro w hSw; (try dsimp only at hSw); go_simp; first | done | with_reducible rfl)
          try simp only [Act.put, List.setIfInBounds_toArray, List.set_cons_zero, List.set_cons_succ]
          refine take_d (v := ?_) 12 51 rfl rfl (by kernel_rfl) (by kernel_rfl) (by kernel_rfl) (fun _ _ _ h => h) (by kernel_rfl) ?_ (by assumption) ?_
          rotate_left
          · (intro w hSw; (try dsimp only at hSw); go_simp; first | done | with_reducible rfl)
          try simp only [Act.put, List.setIfInBounds_toArray, List.set_cons_zero, List.set_cons_succ]
          refine wpAnyH_ready (rs := [13]) (by kernel_rfl) (by simp) ?_
          refine AllReadyH.cons rfl (fun K hK => ?_) AllReadyH.nil
          (refine step_copy_none_k rfl (.tmp 45) (.tmp 51) _ _ rfl 35 2 Try.underlying29 hszE _ _ _ _ _ _ rfl rfl (by simp) ?_; change K (Act.put _ (some 52) _) _)
          refine hK.out _ _ ⟨hc8, c82⟩ (fun hHeld => ?_)
          clear hK K
          try simp only [Act.put, List.setIfInBounds_toArray, List.set_cons_zero, List.set_cons_succ]
          refine wpAnyH_done (by kernel_rfl) ?_ _
          go_wp2_with fail
          go_meet
          exact HA.out.drew
      case rest =>
      have HA := Lib.hid hcut
      clear hcur hnc7 hm7 hs7 ht7 ob8 hc8 c82 hcut cur
      go_upto_region 9 with fail
      have l8 : (m ++ ([⟨x0, x1⟩] : List S35)).length = p + 1 := by have := HN.out; simp; omega
      have hc9 := HA.out.cc
      have q90 := HA.out.cv.1
      have q91 := HA.out.cv.2
      have c92 := blk_cell HA.out.ch.blk 2
      rw [l8] at c92
      simp at c92
      obtain ⟨r0, r1⟩ := Own.at_ HA.out.ch.own p (by rw [l8]; omega)
      have fz := HA.out.ch.own.frozenAt
      have z0 := fz (p * 2)
      have z1 := fz (p * 2 + 1)
      clear fz
      have g7 : (p : Int) < (p : Int) + 1 := by omega
      go_cut [59] (fun s wx => Aft B w wx pc pv hb fb ff v.ownBlock ⟨x0, x1⟩ ((m ++ ([⟨x0, x1⟩] : List S35)).set p ⟨x0, x1⟩) g c7)
      case first =>
        refine wp_region_held_drew (S := fun w' => w'.cell? ⟨pc, 0, none⟩ = some (.pointer (some ⟨hb, 0, none⟩)) ∧ w'.cell? ⟨pv, 0, none⟩ = some (.int .i64 x0) ∧ w'.cell? ⟨pv, 1, none⟩ = some (.int .i64 x1) ∧ w'.cell? ⟨hb, 2, none⟩ = some (.slice (some ⟨g, 0, none⟩) (p + 1) c7)) (by kernel_rfl) ⟨hc9, q90, q91, c92⟩ (fun hHeld => ?_)
        refine take_d (v := ?_) 0 53 rfl rfl (by kernel_rfl) (by kernel_rfl) (by kernel_rfl) (fun _ _ _ h => h) (by kernel_rfl) ?_ (by assumption) ?_
        rotate_left
        · (intro w hSw; (try dsimp only at hSw); go_simp; first | done | with_reducible rfl)
        try simp only [Act.put, List.setIfInBounds_toArray, List.set_cons_zero, List.set_cons_succ]
        refine take_d (v := ?_) 1 54 rfl rfl (by kernel_rfl) (by kernel_rfl) (by kernel_rfl) (fun _ _ _ h => h) (by kernel_rfl) ?_ (by assumption) ?_
        rotate_left
        · (intro w hSw; (try dsimp only at hSw); go_simp; first | done | with_reducible rfl)
        try simp only [Act.put, List.setIfInBounds_toArray, List.set_cons_zero, List.set_cons_succ]
        refine take_d (v := ?_) 2 55 rfl rfl (by kernel_rfl) (by kernel_rfl) (by kernel_rfl) (fun _ _ _ h => h) (by kernel_rfl) ?_ (by assumption) ?_
        rotate_left
        · (intro w hSw; (try dsimp only at hSw); go_simp; first | done | with_reducible rfl)
        try simp only [Act.put, List.setIfInBounds_toArray, List.set_cons_zero, List.set_cons_succ]
        refine take_d (v := ?_) 3 56 rfl rfl (by kernel_rfl) (by kernel_rfl) (by kernel_rfl) (fun _ _ _ h => h) (by kernel_rfl) ?_ (by assumption) ?_
        rotate_left
        · (intro w hSw; (try dsimp only at hSw); go_simp; first | done | with_reducible rfl)
        try simp only [Act.put, List.setIfInBounds_toArray, List.set_cons_zero, List.set_cons_succ]
        refine take_d (v := ?_) 4 57 rfl rfl (by kernel_rfl) (by kernel_rfl) (by kernel_rfl) (fun _ _ _ h => h) (by kernel_rfl) ?_ (by assumption) ?_
        rotate_left
        · (intro w hSw; (try dsimp only at hSw); go_simp; first | done | with_reducible rfl)
        try simp only [Act.put, List.setIfInBounds_toArray, List.set_cons_zero, List.set_cons_succ]
        refine take_d (v := ?_) 5 58 rfl rfl (by kernel_rfl) (by kernel_rfl) (by kernel_rfl) (fun _ _ _ h => h) (by kernel_rfl) ?_ (by assumption) ?_
        rotate_left
        · (intro w hSw; (try dsimp only at hSw); go_simp; first | done | with_reducible rfl)
        try simp only [Act.put, List.setIfInBounds_toArray, List.set_cons_zero, List.set_cons_succ]
        refine take_d (v := ?_) 6 59 rfl rfl (by kernel_rfl) (by kernel_rfl) (by kernel_rfl) (fun _ _ _ h => h) (by kernel_rfl) ?_ (by assumption) ?_
        rotate_left
        · (intro w hSw; (try dsimp only at hSw); go_simp; first | done | with_reducible rfl)
        try simp only [Act.put, List.setIfInBounds_toArray, List.set_cons_zero, List.set_cons_succ]
        refine wpAnyH_ready (rs := [7]) (by kernel_rfl) (by simp) ?_
        refine AllReadyH.cons rfl (fun K hK => ?_) AllReadyH.nil
        go_simp
        skip
        go_wp2_with fail
        refine hK.out _ _ ⟨((cell_set_ne (p := ⟨pc, 0, none⟩) (q := ⟨g, p * 2 + 1, none⟩) HA.out.np _).trans (cell_set_ne (p := ⟨pc, 0, none⟩) (q := ⟨g, p * 2, none⟩) HA.out.np _)).trans hc9, ((cell_set_ne (p := ⟨pv, 0, none⟩) (q := ⟨g, p * 2 + 1, none⟩) HA.out.nv _).trans (cell_set_ne (p := ⟨pv, 0, none⟩) (q := ⟨g, p * 2, none⟩) HA.out.nv _)).trans q90, ((cell_set_ne (p := ⟨pv, 1, none⟩) (q := ⟨g, p * 2 + 1, none⟩) HA.out.nv _).trans (cell_set_ne (p := ⟨pv, 1, none⟩) (q := ⟨g, p * 2, none⟩) HA.out.nv _)).trans q91, ((cell_set_ne (p := ⟨hb, 2, none⟩) (q := ⟨g, p * 2 + 1, none⟩) HA.out.nh _).trans (cell_set_ne (p := ⟨hb, 2, none⟩) (q := ⟨g, p * 2, none⟩) HA.out.nh _)).trans c92⟩ (fun hHeld => ?_)
        clear hK K
        try simp only [Act.put, List.setIfInBounds_toArray, List.set_cons_zero, List.set_cons_succ]
        refine wpAnyH_done (by kernel_rfl) ?_ _
        go_wp2_with fail
        go_meet
        exact HA.out.drew.set p
      case rest =>
      have HA := Lib.hid hcut
      clear hcut
      go_wp2_with fail
      go_ret
      have hA := HA.out
      rw [ins_eq ⟨x0, x1⟩ HN.out] at hA
      exact ⟨rfl, _, hA.ch, hA.fr, by rcases hA.ow with h | h; exact .inl (by rw [h]; rfl); exact .inr ⟨g, rfl, h⟩⟩
    · have hpz2 : z = (p : Int) := by rw [if_neg hz0] at hpz; omega
      subst hpz2
      have hpn : p < n := by have := hzl (by omega); omega
      clear hpz hzl hlo hz0
      go_upto_region 7 with fail
      go_cut [36] (fun s wx => ∃ g c7, Aft B w wx pc pv hb fb ff v.ownBlock ⟨x0, x1⟩ (m ++ ([⟨x0, x1⟩] : List S35)) g c7)
      case first =>
        refine wp_region_held_drew (S := fun w' => w'.cell? ⟨pc, 0, none⟩ = some (.pointer (some ⟨hb, 0, none⟩)) ∧ w'.cell? ⟨pv, 0, none⟩ = some (.int .i64 x0) ∧ w'.cell? ⟨pv, 1, none⟩ = some (.int .i64 x1)) (by kernel_rfl) ⟨hc4, q40, q41⟩ (fun hHeld => ?_)
        refine take_d (v := ?_) 0 29 rfl rfl (by kernel_rfl) (by kernel_rfl) (by kernel_rfl) (fun _ _ _ h => h) (by kernel_rfl) ?_ (by assumption) ?_
        rotate_left
        · (intro w hSw; (try dsimp only at hSw); go_simp; first | done | with_reducible rfl)
        try simp only [Act.put, List.setIfInBounds_toArray, List.set_cons_zero, List.set_cons_succ]
        refine take_d (v := ?_) 1 30 rfl rfl (by kernel_rfl) (by kernel_rfl) (by kernel_rfl) (fun _ _ _ h => h) (by kernel_rfl) ?_ (by assumption) ?_
        rotate_left
        · (intro w hSw; (try dsimp only at hSw); go_simp; first | done | with_reducible rfl)
        try simp only [Act.put, List.setIfInBounds_toArray, List.set_cons_zero, List.set_cons_succ]
        refine take_d (v := ?_) 2 31 rfl rfl (by kernel_rfl) (by kernel_rfl) (by kernel_rfl) (fun _ _ _ h => h) (by kernel_rfl) ?_ (by assumption) ?_
        rotate_left
        · (intro w hSw; (try dsimp only at hSw); go_simp; first | done | with_reducible rfl)
        try simp only [Act.put, List.setIfInBounds_toArray, List.set_cons_zero, List.set_cons_succ]
        refine take_d (v := ?_) 3 32 rfl rfl (by kernel_rfl) (by kernel_rfl) (by kernel_rfl) (fun _ _ _ h => h) (by kernel_rfl) ?_ (by assumption) ?_
        rotate_left
        · (intro w hSw; (try dsimp only at hSw); go_simp; first | done | with_reducible rfl)
        try simp only [Act.put, List.setIfInBounds_toArray, List.set_cons_zero, List.set_cons_succ]
        refine take_d (v := ?_) 5 34 rfl rfl (by kernel_rfl) (by kernel_rfl) (by kernel_rfl) (fun _ _ _ h => h) (by kernel_rfl) ?_ (by assumption) ?_
        rotate_left
        · (intro w hSw; (try dsimp only at hSw); go_simp; first | done | with_reducible rfl)
        try simp only [Act.put, List.setIfInBounds_toArray, List.set_cons_zero, List.set_cons_succ]
        refine wpAnyH_ready (rs := [4, 6]) (by kernel_rfl) (by simp) ?_
        refine AllReadyH.cons rfl (fun K hK => ?_) (AllReadyH.cons rfl (fun K hK => ?_) AllReadyH.nil)
        · go_simp
          refine hK.out _ _ ⟨hc4, q40, q41⟩ (fun hHeld => ?_)
          clear hK K
          try simp only [Act.put, List.setIfInBounds_toArray, List.set_cons_zero, List.set_cons_succ]
          refine wpAnyH_ready (rs := [6]) (by kernel_rfl) (by simp) ?_
          refine AllReadyH.cons rfl (fun K hK => ?_) AllReadyH.nil
          go_simp
          skip
          go_wp2_with fail
          refine hK.out _ _ ⟨hc5, q50, q51⟩ (fun hHeld => ?_)
          clear hK K
          try simp only [Act.put, List.setIfInBounds_toArray, List.set_cons_zero, List.set_cons_succ]
          refine wpAnyH_ready (rs := [7]) (by kernel_rfl) (by simp) ?_
          refine AllReadyH.cons rfl (fun K hK => ?_) AllReadyH.nil
          (refine step_append_any _ rfl (.tmp 33) (.tmp 35) _ rfl B 35 i0 _ 2 16 Try.underlying29 hi0 hz0 hz1 hz2 rfl (by omega) (.slice a n c) n (flat m) rfl O5 (w4.heap.size + 1) (some ⟨w4.heap.size, 0, none⟩) 1 1 (flat [⟨x0, x1⟩]) rfl lit f1 (by unfold maxLen; omega) hn1 (by simp; omega) ?_; intro v7 w7 hown7 hgrow7 hat7; have hown7b : Own B w7 v7 (n + 1) (m ++ ([⟨x0, x1⟩] : List S35)) := (by unfold Own; rw [flat_append]; exact hown7); obtain ⟨g, c7, hv7, hBg, hg7, hnc7, hm7⟩ := hown7b.form (by omega); clear hown7b; subst hv7; have hb7 := (hgrow7.block hb (by simp; omega) (Ne.symm hnr)).trans H5.out.blk; have c72 := blk_cell hb7 2; have z72 := blk_frozen hb7 2; simp at c72; have hc7 := (World.cell?_of_block (a := ⟨pc, 0, none⟩) (hgrow7.block pc (by simp; omega) (hq3 pc hgc))).trans hc5; have q70 := (World.cell?_of_block (a := ⟨pv, 0, none⟩) (hgrow7.block pv (by simp; omega) (hq3 pv hgv))).trans q50; have q71 := (World.cell?_of_block (a := ⟨pv, 1, none⟩) (hgrow7.block pv (by simp; omega) (hq3 pv hgv))).trans q51)
          refine hK.out _ _ ⟨hc7, q70, q71⟩ (fun hHeld => ?_)
          clear hK K
          try simp only [Act.put, List.setIfInBounds_toArray, List.set_cons_zero, List.set_cons_succ]
          refine take_d (v := ?_) 8 37 rfl rfl (by kernel_rfl) (by kernel_rfl) (by kernel_rfl) (fun _ _ _ h => h) (by kernel_rfl) ?_ (by assumption) ?_
          rotate_left
          · (intro w hSw; (try dsimp only at hSw); go_simp; first | done | with_reducible rfl)
          try simp only [Act.put, List.setIfInBounds_toArray, List.set_cons_zero, List.set_cons_succ]
          refine take_d (v := ?_) 9 38 rfl rfl (by kernel_rfl) (by kernel_rfl) (by kernel_rfl) (fun _ _ _ h => h) (by kernel_rfl) ?_ (by assumption) ?_
          rotate_left
          · (intro w hSw; (try dsimp only at hSw); go_simp; first | done | with_reducible rfl)
          try simp only [Act.put, List.setIfInBounds_toArray, List.set_cons_zero, List.set_cons_succ]
          refine wpAnyH_ready (rs := [10]) (by kernel_rfl) (by simp) ?_
          refine AllReadyH.cons rfl (fun K hK => ?_) AllReadyH.nil
          go_simp
          skip
          go_wp2_with fail
          refine hK.out _ _ ⟨(cell_set_ne (p := ⟨pc, 0, none⟩) (q := ⟨hb, 2, none⟩) (by simp; omega) _).trans hc7, (cell_set_ne (p := ⟨pv, 0, none⟩) (q := ⟨hb, 2, none⟩) (by simp; omega) _).trans q70, (cell_set_ne (p := ⟨pv, 1, none⟩) (q := ⟨hb, 2, none⟩) (by simp; omega) _).trans q71⟩ (fun hHeld => ?_)
          clear hK K
          try simp only [Act.put, List.setIfInBounds_toArray, List.set_cons_zero, List.set_cons_succ]
          refine wpAnyH_done (by kernel_rfl) ?_ _
          go_wp2_with fail
          have hown8 : Own B w7 (.slice (some ⟨g, 0, none⟩) (m ++ ([⟨x0, x1⟩] : List S35)).length c7) (m ++ ([⟨x0, x1⟩] : List S35)).length (m ++ ([⟨x0, x1⟩] : List S35)) := by unfold Own; rw [flat_append, e1]; exact hown7
          have hgh : g ≠ hb := by obtain ⟨cur, hh, _⟩ := own_row hown8; exact blk_ne hh hb7 (by decide)
          have F7 : Fr w w7 hb v.ownBlock := ⟨hgrow7.os.trans FW5.out.os, hgrow7.tape.trans FW5.out.tape, hgrow7.output.trans FW5.out.output, Nat.le_trans FW5.out.size hgrow7.size, fun k hk hg hr => (hgrow7.block k (Nat.lt_of_lt_of_le hk FW5.out.size) (by rw [HN.out, HQ3.out]; exact hr)).trans (FW5.out.block k hk hg hr)⟩
          have hP := H5.out.put (m := m ++ ([⟨x0, x1⟩] : List S35)) (hb7.trans H5.out.blk.symm) hown8 (by simp [Value.ownBlock, hgh])
          rw [e1] at hP
          have hng : ∀ k, k < w4.heap.size → some k ≠ (Value.slice a n c).ownBlock → k ≠ g := fun k hk hr => by rintro rfl; rcases hat7 with h | h; exact hr (by rw [← h]; rfl); simp [Value.ownBlock] at h; omega
          go_meet
          exact ⟨g, c7, by rw [e1]; exact hP, F7.setCell (.inl rfl) _, by rcases hat7 with h | h; exact .inl (by rw [← HQ3.out, ← HN.out, ← h]; rfl); exact .inr (by simp [Value.ownBlock] at h; omega), Nat.lt_of_lt_of_le (Nat.lt_of_lt_of_le hlc4 hsz5) (by simpa [World.setCell] using hgrow7.size), Nat.lt_of_lt_of_le (Nat.lt_of_lt_of_le hlv4 hsz5) (by simpa [World.setCell] using hgrow7.size), (cell_set_ne (p := ⟨pc, 0, none⟩) (q := ⟨hb, 2, none⟩) (by simp; omega) _).trans hc7, ⟨(cell_set_ne (p := ⟨pv, 0, none⟩) (q := ⟨hb, 2, none⟩) (by simp; omega) _).trans q70, (cell_set_ne (p := ⟨pv, 1, none⟩) (q := ⟨hb, 2, none⟩) (by simp; omega) _).trans q71⟩, hng pc hlc4 (hq3 pc hgc), hng pv hlv4 (hq3 pv hgv), Ne.symm hgh⟩
        · go_simp
          refine hK.out _ _ ⟨hc5, q50, q51⟩ (fun hHeld => ?_)
          clear hK K
          try simp only [Act.put, List.setIfInBounds_toArray, List.set_cons_zero, List.set_cons_succ]
          refine wpAnyH_ready (rs := [4]) (by kernel_rfl) (by simp) ?_
          refine AllReadyH.cons rfl (fun K hK => ?_) AllReadyH.nil
          go_simp
          skip
          go_wp2_with fail
          refine hK.out _ _ ⟨hc5, q50, q51⟩ (fun hHeld => ?_)
          clear hK K
          try simp only [Act.put, List.setIfInBounds_toArray, List.set_cons_zero, List.set_cons_succ]
          refine wpAnyH_ready (rs := [7]) (by kernel_rfl) (by simp) ?_
          refine AllReadyH.cons rfl (fun K hK => ?_) AllReadyH.nil
          (refine step_append_any _ rfl (.tmp 33) (.tmp 35) _ rfl B 35 i0 _ 2 16 Try.underlying29 hi0 hz0 hz1 hz2 rfl (by omega) (.slice a n c) n (flat m) rfl O5 (w4.heap.size + 1) (some ⟨w4.heap.size, 0, none⟩) 1 1 (flat [⟨x0, x1⟩]) rfl lit f1 (by unfold maxLen; omega) hn1 (by simp; omega) ?_; intro v7 w7 hown7 hgrow7 hat7; have hown7b : Own B w7 v7 (n + 1) (m ++ ([⟨x0, x1⟩] : List S35)) := (by unfold Own; rw [flat_append]; exact hown7); obtain ⟨g, c7, hv7, hBg, hg7, hnc7, hm7⟩ := hown7b.form (by omega); clear hown7b; subst hv7; have hb7 := (hgrow7.block hb (by simp; omega) (Ne.symm hnr)).trans H5.out.blk; have c72 := blk_cell hb7 2; have z72 := blk_frozen hb7 2; simp at c72; have hc7 := (World.cell?_of_block (a := ⟨pc, 0, none⟩) (hgrow7.block pc (by simp; omega) (hq3 pc hgc))).trans hc5; have q70 := (World.cell?_of_block (a := ⟨pv, 0, none⟩) (hgrow7.block pv (by simp; omega) (hq3 pv hgv))).trans q50; have q71 := (World.cell?_of_block (a := ⟨pv, 1, none⟩) (hgrow7.block pv (by simp; omega) (hq3 pv hgv))).trans q51)
          refine hK.out _ _ ⟨hc7, q70, q71⟩ (fun hHeld => ?_)
          clear hK K
          try simp only [Act.put, List.setIfInBounds_toArray, List.set_cons_zero, List.set_cons_succ]
          refine take_d (v := ?_) 8 37 rfl rfl (by kernel_rfl) (by kernel_rfl) (by kernel_rfl) (fun _ _ _ h => h) (by kernel_rfl) ?_ (by assumption) ?_
          rotate_left
          · (intro w hSw; (try dsimp only at hSw); go_simp; first | done | with_reducible rfl)
          try simp only [Act.put, List.setIfInBounds_toArray, List.set_cons_zero, List.set_cons_succ]
          refine take_d (v := ?_) 9 38 rfl rfl (by kernel_rfl) (by kernel_rfl) (by kernel_rfl) (fun _ _ _ h => h) (by kernel_rfl) ?_ (by assumption) ?_
          rotate_left
          · (intro w hSw; (try dsimp only at hSw); go_simp; first | done | with_reducible rfl)
          try simp only [Act.put, List.setIfInBounds_toArray, List.set_cons_zero, List.set_cons_succ]
          refine wpAnyH_ready (rs := [10]) (by kernel_rfl) (by simp) ?_
          refine AllReadyH.cons rfl (fun K hK => ?_) AllReadyH.nil
          go_simp
          skip
          go_wp2_with fail
          refine hK.out _ _ ⟨(cell_set_ne (p := ⟨pc, 0, none⟩) (q := ⟨hb, 2, none⟩) (by simp; omega) _).trans hc7, (cell_set_ne (p := ⟨pv, 0, none⟩) (q := ⟨hb, 2, none⟩) (by simp; omega) _).trans q70, (cell_set_ne (p := ⟨pv, 1, none⟩) (q := ⟨hb, 2, none⟩) (by simp; omega) _).trans q71⟩ (fun hHeld => ?_)
          clear hK K
          try simp only [Act.put, List.setIfInBounds_toArray, List.set_cons_zero, List.set_cons_succ]
          refine wpAnyH_done (by kernel_rfl) ?_ _
          go_wp2_with fail
          have hown8 : Own B w7 (.slice (some ⟨g, 0, none⟩) (m ++ ([⟨x0, x1⟩] : List S35)).length c7) (m ++ ([⟨x0, x1⟩] : List S35)).length (m ++ ([⟨x0, x1⟩] : List S35)) := by unfold Own; rw [flat_append, e1]; exact hown7
          have hgh : g ≠ hb := by obtain ⟨cur, hh, _⟩ := own_row hown8; exact blk_ne hh hb7 (by decide)
          have F7 : Fr w w7 hb v.ownBlock := ⟨hgrow7.os.trans FW5.out.os, hgrow7.tape.trans FW5.out.tape, hgrow7.output.trans FW5.out.output, Nat.le_trans FW5.out.size hgrow7.size, fun k hk hg hr => (hgrow7.block k (Nat.lt_of_lt_of_le hk FW5.out.size) (by rw [HN.out, HQ3.out]; exact hr)).trans (FW5.out.block k hk hg hr)⟩
          have hP := H5.out.put (m := m ++ ([⟨x0, x1⟩] : List S35)) (hb7.trans H5.out.blk.symm) hown8 (by simp [Value.ownBlock, hgh])
          rw [e1] at hP
          have hng : ∀ k, k < w4.heap.size → some k ≠ (Value.slice a n c).ownBlock → k ≠ g := fun k hk hr => by rintro rfl; rcases hat7 with h | h; exact hr (by rw [← h]; rfl); simp [Value.ownBlock] at h; omega
          go_meet
          exact ⟨g, c7, by rw [e1]; exact hP, F7.setCell (.inl rfl) _, by rcases hat7 with h | h; exact .inl (by rw [← HQ3.out, ← HN.out, ← h]; rfl); exact .inr (by simp [Value.ownBlock] at h; omega), Nat.lt_of_lt_of_le (Nat.lt_of_lt_of_le hlc4 hsz5) (by simpa [World.setCell] using hgrow7.size), Nat.lt_of_lt_of_le (Nat.lt_of_lt_of_le hlv4 hsz5) (by simpa [World.setCell] using hgrow7.size), (cell_set_ne (p := ⟨pc, 0, none⟩) (q := ⟨hb, 2, none⟩) (by simp; omega) _).trans hc7, ⟨(cell_set_ne (p := ⟨pv, 0, none⟩) (q := ⟨hb, 2, none⟩) (by simp; omega) _).trans q70, (cell_set_ne (p := ⟨pv, 1, none⟩) (q := ⟨hb, 2, none⟩) (by simp; omega) _).trans q71⟩, hng pc hlc4 (hq3 pc hgc), hng pv hlv4 (hq3 pv hgv), Ne.symm hgh⟩
      case rest =>
      obtain ⟨g, c7, HA7⟩ := hcut
      clear O5 H5 FW5 lit hc5 hc4 hc24 q40 q50 q41 q51
      go_upto_region 8 with fail
      have hc8 := HA7.cc
      have c82 := blk_cell HA7.ch.blk 2
      rw [e1] at c82
      simp at c82
      have ob8 : Own B wc (.slice (some ⟨g, 0, none⟩) (m ++ ([⟨x0, x1⟩] : List S35)).length c7) (m ++ ([⟨x0, x1⟩] : List S35)).length (m ++ ([⟨x0, x1⟩] : List S35)) := HA7.ch.own
      obtain ⟨cur, hcur, hnc7, hm7, hs7, ht7⟩ := own_row ob8
      rw [e1] at hnc7 ht7
      unfold maxLen at hm7
      have HA := Lib.hid HA7
      clear HA7
      have hw1 : IntKind.i64.wrap ((p : Int) + 1) = (p : Int) + 1 := IntWalk.i64_in _ ⟨by omega, by omega⟩
      have g0 : (0 : Int) ≤ (p : Int) + 1 := by omega
      have g1 : (p : Int) + 1 ≤ (n : Int) + 1 := by omega
      have g2 : (p : Int) ≤ (n : Int) + 1 := by omega
      have g3 : ¬ c7 = p := by omega
      have g4 : ¬ c7 = p + 1 := by omega
      go_cut [52] (fun s wx => Aft B w wx pc pv hb fb ff v.ownBlock ⟨x0, x1⟩ (m.take (p + 1) ++ m.drop p) g c7)
      case first =>
        have hsrc : ∀ j v, (flat (m.drop p))[j]? = some v → wc.drew.cell? ((⟨g, p * 2, none⟩ : Addr).add j) = some v := fun j v hj => by
          have : (⟨g, p * 2, none⟩ : Addr).add j = ⟨g, p * 2 + j, none⟩ := by unfold Addr.add; split <;> simp_all
          rw [this]
          have h1 := drop_cells ht7 j v hj (by rw [← HN.out]; omega)
          exact (blk_cell hcur _).trans h1
        have hfl : (flat (m.drop p)).length = (n - p) * 2 := by rw [flat_length, List.length_drop, ← HN.out]
        have hfit : (p + 1) * 2 + (flat (m.drop p)).length ≤ cur.size := by rw [hfl, hs7]; omega
        refine wp_region_held_drew (S := fun w' => w'.cell? ⟨pc, 0, none⟩ = some (.pointer (some ⟨hb, 0, none⟩)) ∧ w'.cell? ⟨hb, 2, none⟩ = some (.slice (some ⟨g, 0, none⟩) (n + 1) c7)) (by kernel_rfl) ⟨hc8, c82⟩ (fun hHeld => ?_)
        refine take_d (v := ?_) 0 39 rfl rfl (by kernel_rfl) (by kernel_rfl) (by kernel_rfl) (fun _ _ _ h => h) (by kernel_rfl) ?_ (by assumption) ?_
        rotate_left
        · (intro w hSw; (try dsimp only at hSw); go_simp; first | done | with_reducible rfl)
        try simp only [Act.put, List.setIfInBounds_toArray, List.set_cons_zero, List.set_cons_succ]
        refine take_d (v := ?_) 1 40 rfl rfl (by kernel_rfl) (by kernel_rfl) (by kernel_rfl) (fun _ _ _ h => h) (by kernel_rfl) ?_ (by assumption) ?_
        rotate_left
        · (intro w hSw; (try dsimp only at hSw); go_simp; first | done | with_reducible rfl)
        try simp only [Act.put, List.setIfInBounds_toArray, List.set_cons_zero, List.set_cons_succ]
        refine take_d (v := ?_) 2 41 rfl rfl (by kernel_rfl) (by kernel_rfl) (by kernel_rfl) (fun _ _ _ h => h) (by kernel_rfl) ?_ (by assumption) ?_
        rotate_left
        · (intro w hSw; (try dsimp only at hSw); go_simp; first | done | with_reducible rfl)
        try simp only [Act.put, List.setIfInBounds_toArray, List.set_cons_zero, List.set_cons_succ]
        refine take_d (v := ?_) 3 42 rfl rfl (by kernel_rfl) (by kernel_rfl) (by kernel_rfl) (fun _ _ _ h => h) (by kernel_rfl) ?_ (by assumption) ?_
        rotate_left
        · (intro w hSw; (try dsimp only at hSw); go_simp; first | done | with_reducible rfl)
        try simp only [Act.put, List.setIfInBounds_toArray, List.set_cons_zero, List.set_cons_succ]
        refine take_d (v := ?_) 4 43 rfl rfl (by kernel_rfl) (by kernel_rfl) (by kernel_rfl) (fun _ _ _ h => h) (by kernel_rfl) ?_ (by assumption) ?_
        rotate_left
        · (intro w hSw; (try dsimp only at hSw); go_simp; first | done | with_reducible rfl)
        try simp only [Act.put, List.setIfInBounds_toArray, List.set_cons_zero, List.set_cons_succ]
        refine take_d (v := ?_) 5 44 rfl rfl (by kernel_rfl) (by kernel_rfl) (by kernel_rfl) (fun _ _ _ h => h) (by kernel_rfl) ?_ (by assumption) ?_
        rotate_left
        · (intro w hSw; (try dsimp only at hSw); go_simp; first | done | with_reducible rfl)
        try simp only [Act.put, List.setIfInBounds_toArray, List.set_cons_zero, List.set_cons_succ]
        refine take_d (v := ?_) 6 45 rfl rfl (by kernel_rfl) (by kernel_rfl) (by kernel_rfl) (fun _ _ _ h => h) (by kernel_rfl) ?_ (by assumption) ?_
        rotate_left
        · (intro w hSw; (try dsimp only at hSw); go_simp; first | done | with_reducible rfl)
        try simp only [Act.put, List.setIfInBounds_toArray, List.set_cons_zero, List.set_cons_succ]
        refine take_d (v := ?_) 7 46 rfl rfl (by kernel_rfl) (by kernel_rfl) (by kernel_rfl) (fun _ _ _ h => h) (by kernel_rfl) ?_ (by assumption) ?_
        rotate_left
        · (intro w hSw; (try dsimp only at hSw); go_simp; first | done | with_reducible rfl)
        try simp only [Act.put, List.setIfInBounds_toArray, List.set_cons_zero, List.set_cons_succ]
        refine take_d (v := ?_) 8 47 rfl rfl (by kernel_rfl) (by kernel_rfl) (by kernel_rfl) (fun _ _ _ h => h) (by kernel_rfl) ?_ (by assumption) ?_
        rotate_left
        · (intro w hSw; (try dsimp only at hSw); go_simp; first | done | with_reducible rfl)
        try simp only [Act.put, List.setIfInBounds_toArray, List.set_cons_zero, List.set_cons_succ]
        refine take_d (v := ?_) 9 48 rfl rfl (by kernel_rfl) (by kernel_rfl) (by kernel_rfl) (fun _ _ _ h => h) (by kernel_rfl) ?_ (by assumption) ?_
        rotate_left
        · (intro w hSw; (try dsimp only at hSw); go_simp; first | done | with_reducible rfl)
        try simp only [Act.put, List.setIfInBounds_toArray, List.set_cons_zero, List.set_cons_succ]
        refine take_d (v := ?_) 10 49 rfl rfl (by kernel_rfl) (by kernel_rfl) (by kernel_rfl) (fun _ _ _ h => h) (by kernel_rfl) ?_ (by assumption) ?_
        rotate_left
        · (intro w hSw; (try dsimp only at hSw); go_simp; first | done | with_reducible rfl)
        try simp only [Act.put, List.setIfInBounds_toArray, List.set_cons_zero, List.set_cons_succ]
        refine take_d (v := ?_) 11 50 rfl rfl (by kernel_rfl) (by kernel_rfl) (by kernel_rfl) (fun _ _ _ h => h) (by kernel_rfl) ?_ (by assumption) ?_
        rotate_left
        · (intro w hSw; (try dsimp only at hSw); go_simp; first | done | with_reducible rfl)
        try simp only [Act.put, List.setIfInBounds_toArray, List.set_cons_zero, List.set_cons_succ]
        refine take_d (v := ?_) 12 51 rfl rfl (by kernel_rfl) (by kernel_rfl) (by kernel_rfl) (fun _ _ _ h => h) (by kernel_rfl) ?_ (by assumption) ?_
        rotate_left
        · (intro w hSw; (try dsimp only at hSw); go_simp; first | done | with_reducible rfl)
        try simp only [Act.put, List.setIfInBounds_toArray, List.set_cons_zero, List.set_cons_succ]
        refine wpAnyH_ready (rs := [13]) (by kernel_rfl) (by simp) ?_
        refine AllReadyH.cons rfl (fun K hK => ?_) AllReadyH.nil
        (refine step_copy_k rfl (.tmp 45) (.tmp 51) _ _ rfl 35 2 Try.underlying29 hszE g ((p + 1) * 2) ⟨g, p * 2, none⟩ _ _ _ _ rfl rfl cur 35 hcur (flat (m.drop p)) (by rw [hfl]; congr 1; exact (Nat.min_eq_right (by omega)).symm) hsrc hfit (flat_one _) ?_; change K (Act.put _ (some 52) _) _)
        refine hK.out _ _ ⟨(World.cell?_of_block (a := ⟨pc, 0, none⟩) (setRow_other wc.drew g pc _ HA.out.np)).trans hc8, (World.cell?_of_block (a := ⟨hb, 2, none⟩) (setRow_other wc.drew g hb _ HA.out.nh)).trans c82⟩ (fun hHeld => ?_)
        clear hK K
        try simp only [Act.put, List.setIfInBounds_toArray, List.set_cons_zero, List.set_cons_succ]
        refine wpAnyH_done (by kernel_rfl) ?_ _
        go_wp2_with fail
        go_meet
        exact (by have := HA.out.drew.copy (cur := cur) (p := p) (by rw [← HN.out]; exact hpn) hcur (by rw [← HN.out, hs7]; exact Nat.mul_le_mul_right _ hnc7) (by rw [← HN.out]; exact ht7); exact this)
      case rest =>
      have HA := Lib.hid hcut
      clear hcur hnc7 hm7 hs7 ht7 ob8 hc8 c82 hcut cur
      go_upto_region 9 with fail
      have l8 : (m.take (p + 1) ++ m.drop p).length = n + 1 := by have := HN.out; simp; omega
      have hc9 := HA.out.cc
      have q90 := HA.out.cv.1
      have q91 := HA.out.cv.2
      have c92 := blk_cell HA.out.ch.blk 2
      rw [l8] at c92
      simp at c92
      obtain ⟨r0, r1⟩ := Own.at_ HA.out.ch.own p (by rw [l8]; omega)
      have fz := HA.out.ch.own.frozenAt
      have z0 := fz (p * 2)
      have z1 := fz (p * 2 + 1)
      clear fz
      have g7 : (p : Int) < (n : Int) + 1 := by omega
      go_cut [59] (fun s wx => Aft B w wx pc pv hb fb ff v.ownBlock ⟨x0, x1⟩ ((m.take (p + 1) ++ m.drop p).set p ⟨x0, x1⟩) g c7)
      case first =>
        refine wp_region_held_drew (S := fun w' => w'.cell? ⟨pc, 0, none⟩ = some (.pointer (some ⟨hb, 0, none⟩)) ∧ w'.cell? ⟨pv, 0, none⟩ = some (.int .i64 x0) ∧ w'.cell? ⟨pv, 1, none⟩ = some (.int .i64 x1) ∧ w'.cell? ⟨hb, 2, none⟩ = some (.slice (some ⟨g, 0, none⟩) (n + 1) c7)) (by kernel_rfl) ⟨hc9, q90, q91, c92⟩ (fun hHeld => ?_)
        refine take_d (v := ?_) 0 53 rfl rfl (by kernel_rfl) (by kernel_rfl) (by kernel_rfl) (fun _ _ _ h => h) (by kernel_rfl) ?_ (by assumption) ?_
        rotate_left
        · (intro w hSw; (try dsimp only at hSw); go_simp; first | done | with_reducible rfl)
        try simp only [Act.put, List.setIfInBounds_toArray, List.set_cons_zero, List.set_cons_succ]
        refine take_d (v := ?_) 1 54 rfl rfl (by kernel_rfl) (by kernel_rfl) (by kernel_rfl) (fun _ _ _ h => h) (by kernel_rfl) ?_ (by assumption) ?_
        rotate_left
        · (intro w hSw; (try dsimp only at hSw); go_simp; first | done | with_reducible rfl)
        try simp only [Act.put, List.setIfInBounds_toArray, List.set_cons_zero, List.set_cons_succ]
        refine take_d (v := ?_) 2 55 rfl rfl (by kernel_rfl) (by kernel_rfl) (by kernel_rfl) (fun _ _ _ h => h) (by kernel_rfl) ?_ (by assumption) ?_
        rotate_left
        · (intro w hSw; (try dsimp only at hSw); go_simp; first | done | with_reducible rfl)
        try simp only [Act.put, List.setIfInBounds_toArray, List.set_cons_zero, List.set_cons_succ]
        refine take_d (v := ?_) 3 56 rfl rfl (by kernel_rfl) (by kernel_rfl) (by kernel_rfl) (fun _ _ _ h => h) (by kernel_rfl) ?_ (by assumption) ?_
        rotate_left
        · (intro w hSw; (try dsimp only at hSw); go_simp; first | done | with_reducible rfl)
        try simp only [Act.put, List.setIfInBounds_toArray, List.set_cons_zero, List.set_cons_succ]
        refine take_d (v := ?_) 4 57 rfl rfl (by kernel_rfl) (by kernel_rfl) (by kernel_rfl) (fun _ _ _ h => h) (by kernel_rfl) ?_ (by assumption) ?_
        rotate_left
        · (intro w hSw; (try dsimp only at hSw); go_simp; first | done | with_reducible rfl)
        try simp only [Act.put, List.setIfInBounds_toArray, List.set_cons_zero, List.set_cons_succ]
        refine take_d (v := ?_) 5 58 rfl rfl (by kernel_rfl) (by kernel_rfl) (by kernel_rfl) (fun _ _ _ h => h) (by kernel_rfl) ?_ (by assumption) ?_
        rotate_left
        · (intro w hSw; (try dsimp only at hSw); go_simp; first | done | with_reducible rfl)
        try simp only [Act.put, List.setIfInBounds_toArray, List.set_cons_zero, List.set_cons_succ]
        refine take_d (v := ?_) 6 59 rfl rfl (by kernel_rfl) (by kernel_rfl) (by kernel_rfl) (fun _ _ _ h => h) (by kernel_rfl) ?_ (by assumption) ?_
        rotate_left
        · (intro w hSw; (try dsimp only at hSw); go_simp; first | done | with_reducible rfl)
        try simp only [Act.put, List.setIfInBounds_toArray, List.set_cons_zero, List.set_cons_succ]
        refine wpAnyH_ready (rs := [7]) (by kernel_rfl) (by simp) ?_
        refine AllReadyH.cons rfl (fun K hK => ?_) AllReadyH.nil
        go_simp
        skip
        go_wp2_with fail
        refine hK.out _ _ ⟨((cell_set_ne (p := ⟨pc, 0, none⟩) (q := ⟨g, p * 2 + 1, none⟩) HA.out.np _).trans (cell_set_ne (p := ⟨pc, 0, none⟩) (q := ⟨g, p * 2, none⟩) HA.out.np _)).trans hc9, ((cell_set_ne (p := ⟨pv, 0, none⟩) (q := ⟨g, p * 2 + 1, none⟩) HA.out.nv _).trans (cell_set_ne (p := ⟨pv, 0, none⟩) (q := ⟨g, p * 2, none⟩) HA.out.nv _)).trans q90, ((cell_set_ne (p := ⟨pv, 1, none⟩) (q := ⟨g, p * 2 + 1, none⟩) HA.out.nv _).trans (cell_set_ne (p := ⟨pv, 1, none⟩) (q := ⟨g, p * 2, none⟩) HA.out.nv _)).trans q91, ((cell_set_ne (p := ⟨hb, 2, none⟩) (q := ⟨g, p * 2 + 1, none⟩) HA.out.nh _).trans (cell_set_ne (p := ⟨hb, 2, none⟩) (q := ⟨g, p * 2, none⟩) HA.out.nh _)).trans c92⟩ (fun hHeld => ?_)
        clear hK K
        try simp only [Act.put, List.setIfInBounds_toArray, List.set_cons_zero, List.set_cons_succ]
        refine wpAnyH_done (by kernel_rfl) ?_ _
        go_wp2_with fail
        go_meet
        exact HA.out.drew.set p
      case rest =>
      have HA := Lib.hid hcut
      clear hcut
      go_wp2_with fail
      go_ret
      have hA := HA.out
      rw [ins_lt ⟨x0, x1⟩ (by rw [← HN.out]; exact hpn)] at hA
      exact ⟨rfl, _, hA.ch, hA.fr, by rcases hA.ow with h | h; exact .inl (by rw [h]; rfl); exact .inr ⟨g, rfl, h⟩⟩

end CP
end Go.Proofs.Ythchppnfffllnaa
