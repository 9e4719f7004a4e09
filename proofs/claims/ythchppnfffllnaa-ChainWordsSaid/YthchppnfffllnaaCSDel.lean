/- DeleteFunc by a function value that reads, over a row of the chain's. -/
import Derived.Test.YthchppnfffllnaaCSIdx
import Derived.Test.YthchppnfffllnaaLaws
set_option linter.unusedVariables false
set_option linter.unusedSimpArgs false
namespace Go.Proofs.Ythchppnfffllnaa
open Go.RowKit PChainScript
namespace CS
theorem info : (Try.prog.info? 9).map (fun i => (i.zero, i.size, i.bytes)) = some (some (.string ByteArray.empty), 1, 16) := by kernel_rfl
/-- What DeleteFunc has done when it has looked at j of them. -/
def Dst (p : ByteArray → Bool) (l cur : List ByteArray) (i j : Nat) : Prop := cur.length = l.length ∧ i < j ∧ j ≤ l.length ∧ cur.take i = (l.take j).filter (fun x => !p x) ∧ cur.drop j = l.drop j
theorem Dst.get {p : ByteArray → Bool} {l cur : List ByteArray} {i j : Nat} (h : Dst p l cur i j) (hj : j < l.length) : ∃ hc : j < cur.length, cur[j] = l[j] := by
  obtain ⟨h1, h2, h3, h4, h5⟩ := h
  refine ⟨by omega, ?_⟩
  rw [List.drop_eq_getElem_cons (by omega), List.drop_eq_getElem_cons hj] at h5
  exact (List.cons.inj h5).1
theorem Dst.skip {p : ByteArray → Bool} {l cur : List ByteArray} {i j : Nat} (h : Dst p l cur i j) (hj : j < l.length) (hp : p l[j] = true) : Dst p l cur i (j + 1) := by
  obtain ⟨h1, h2, h3, h4, h5⟩ := h
  refine ⟨h1, by omega, by omega, ?_, ?_⟩
  · rw [List.take_succ_eq_append_getElem hj, List.filter_append, h4]
    simp [hp]
  · rw [List.drop_eq_getElem_cons (by omega), List.drop_eq_getElem_cons hj] at h5
    exact (List.cons.inj h5).2
theorem Dst.keep {p : ByteArray → Bool} {l cur : List ByteArray} {i j : Nat} (h : Dst p l cur i j) (hj : j < l.length) (hp : p l[j] = false) : Dst p l (cur.set i l[j]) (i + 1) (j + 1) := by
  obtain ⟨h1, h2, h3, h4, h5⟩ := h
  refine ⟨by simp [h1], by omega, by omega, ?_, ?_⟩
  · have e : (cur.set i l[j]).take (i + 1) = cur.take i ++ [l[j]] := by
      rw [List.take_succ_eq_append_getElem (by simp; omega)]
      simp [List.take_set_of_le (Nat.le_refl i)]
    rw [e, List.take_succ_eq_append_getElem hj, List.filter_append, h4]
    simp [hp]
  · rw [List.drop_set_of_lt (by omega)]
    rw [List.drop_eq_getElem_cons (by omega), List.drop_eq_getElem_cons hj] at h5
    exact (List.cons.inj h5).2
theorem Dst.start {p : ByteArray → Bool} {l : List ByteArray} {i : Nat} (h : idxI p l = i) : ∃ hi : i < l.length, Dst p l l i (i + 1) := by
  unfold idxI at h
  cases hf : l.findIdx? p with
  | none => rw [hf] at h; simp at h <;> omega
  | some q =>
    rw [hf] at h
    simp at h
    obtain rfl : q = i := by omega
    obtain ⟨hi, hp, hb⟩ := List.findIdx?_eq_some_iff_getElem.1 hf
    refine ⟨hi, rfl, by omega, by omega, ?_, rfl⟩
    rw [List.take_succ_eq_append_getElem hi, List.filter_append]
    simp only [List.filter_cons, hp, Bool.not_true, Bool.false_eq_true, if_false, List.filter_nil, List.append_nil]
    refine (List.filter_eq_self.2 fun x hx => ?_).symm
    obtain ⟨j, hj, rfl⟩ := List.getElem_of_mem hx
    have hj' : j < q := by simp at hj; omega
    have := hb j hj'
    simpa using this
theorem idx_none {p : ByteArray → Bool} {l : List ByteArray} (h : idxI p l = -1) : l.filter (fun x => !p x) = l := by
  refine List.filter_eq_self.2 fun x hx => ?_
  unfold idxI at h
  cases hf : l.findIdx? p with
  | none => have := List.findIdx?_eq_none_iff.1 hf x hx; simp [this]
  | some q => rw [hf] at h; simp at h
theorem zeros_one (n : Nat) : ∀ v ∈ (Builtin.zeroCells (Value.cells (.string ByteArray.empty)) n).toList, v.oneCell' = true := by
  intro v hv
  simp [Builtin.zeroCells, Value.cells] at hv
  obtain ⟨i, hi, rfl⟩ := hv
  simp [Nat.mod_one]; rfl
theorem own_cut {B : Nat} {w : World} {g n c i : Nat} {l cur : List ByteArray} (ho : Own B w (.slice (some ⟨g, 0, none⟩) n c) n cur) (hi : i ≤ n) (hl : cur.take i = l) (hw : ∃ cs, w.heap[g]? = some (.cells cs 9 (0, 0))) : Own B w (.slice (some ⟨g, 0, none⟩) i c) i l := by
  have hn := ho.len
  rcases ho.2 with ⟨h1, _⟩ | ⟨g', cap, cs, hv, hB, hh, hc, hm, hs, ht⟩
  · cases h1
  · injection hv with h1 h2 h3
    injection h1 with h1
    injection h1 with h1
    subst h1; subst h3
    refine ⟨by rw [flat_length, ← hl, List.length_take]; omega, .inr ⟨g, c, cs, rfl, hB, hh, by omega, hm, hs, ?_⟩⟩
    rw [← hl, flat_take, ← ht, List.take_take]
    congr 1
    have := Nat.mul_le_mul_right 1 hi
    omega
set_option maxRecDepth 100000 in
set_option maxHeartbeats 4000000 in
theorem del_c {k : Nat} {c1 c2 : Value} {I : World → Prop} {p : ByteArray → Bool} (hp : Pred k c1 c2 I p)
    {B : Nat} {w : World} {g n c : Nat} {l : List ByteArray} (hI : ∀ W W', I W → Fr W W' g none → I W') (ho : Own B w (.slice (some ⟨g, 0, none⟩) n c) n l) (h0 : I w) :
    Calls Try.prog 62 #[.slice (some ⟨g, 0, none⟩) n c, .func (.func k) #[] #[c1, c2]] w fun e w' => ∃ m, e = .returned (.slice (some ⟨g, 0, none⟩) m c) ∧ Own B w' (.slice (some ⟨g, 0, none⟩) m c) m (l.filter (fun x => !p x)) ∧ Fr w w' g none := by
  obtain ⟨i0, hi0, hz0, hz1, hz2⟩ := info_parts info
  have hh := idx_c hp (fun W W' h b => hI W W' h (Fr.of_below b g none)) ho h0
  have hlo := idxI_lo p l
  obtain ⟨z, hz⟩ : ∃ z, z = idxI p l := ⟨_, rfl⟩
  rw [← hz] at hh hlo
  have HZ := Lib.hid hz
  clear hz
  have HN := Lib.hid ho.len
  have hcall := hp.call
  have hnc : n ≤ c ∧ c ≤ maxLen := by
    rcases ho.2 with ⟨h1, _⟩ | ⟨g', cap, cs, hv, hB, hh, hc, hm, hs, ht⟩
    · cases h1
    · injection hv with h1 h2 h3
      subst h3
      exact ⟨hc, hm⟩
  obtain ⟨hnc, hm⟩ := hnc
  unfold maxLen at hm
  have HO := Lib.hid ho
  have HI := Lib.hid h0
  have HP := Lib.hid hp
  clear ho h0 hp
  by_cases hzz : z = -1
  · obtain rfl := hzz
    go_enter Try.func62, Try.ntmps62
    go_wp2_with (go_at_call 57; refine hh.mono ?_; rintro e w1 ⟨rfl, b1⟩)
    go_ret
    exact ⟨n, rfl, by rw [idx_none HZ.out.symm]; exact own_below HO.out b1, Fr.of_below b1 g none⟩
  · obtain ⟨i, rfl⟩ : ∃ i : Nat, z = i := ⟨z.toNat, by omega⟩
    have HD := Lib.hid (Dst.start HZ.out.symm)
    have hin : i < n := by obtain ⟨h, _⟩ := HD.out; rw [HN.out]; exact h
    have t1 : ((i : Int) == -1) = false := by simp <;> omega
    clear hzz hlo
    go_enter Try.func62, Try.ntmps62
    go_wp2_with (go_at_call 57; refine hh.mono ?_; rintro e w1 ⟨rfl, b1⟩)
    clear hh t1
    have S1 := Lib.hid (Fr.of_below b1 g none)
    have O1 := Lib.hid (own_below HO.out b1)
    clear b1
    go_loopw [5, 6] (fun s5 s6 wr => ∃ (q j : Nat) (cur : List ByteArray), s5 = .int .i64 q ∧ s6 = .int .i64 j ∧ j ≤ n ∧ q < j ∧ Hid (Dst p l cur q j) ∧ Hid (Own B wr (.slice (some ⟨g, 0, none⟩) n c) n cur) ∧ Hid (Fr w wr g none)) (fun _ s6 _ => n - (intOf s6).toNat)
    case atStart => exact ⟨i, i + 1, l, rfl, by go_num, by omega, by omega, Lib.hid (by obtain ⟨_, h⟩ := HD.out; exact h), O1, S1⟩
    case round =>
      clear O1 S1
      obtain ⟨q, j, cur, rfl, rfl, hjn, hqj, HS, HW, HF⟩ := hrel
      by_cases hlt : j < n
      · have hjl : j < l.length := by rw [← HN.out]; exact hlt
        have hg := HS.out.get hjl
        obtain ⟨hjc, hge⟩ := hg
        obtain q0 := Own.at_ HW.out j hjc
        have hgw : g < wr.heap.size := by
          obtain ⟨g', c', h1, _, h2, _⟩ := HW.out.form (by omega)
          injection h1 with h1
          injection h1 with h1
          injection h1 with h1
          omega
        rw [hge] at q0
        obtain ⟨x, hx⟩ : ∃ x, x = l[j] := ⟨_, rfl⟩
        rw [← hx] at q0
        have HX := Lib.hid hx
        clear hx hge
        skip
        go_upto_region 8 with fail
        have FX := HF.out
        have OX := HW.out
        clear q0 HW HF
        have hI1 := hI _ _ HI.out FX
        have hd := HP.out.does x wr hI1
        have W2 := wr
        have FX := Lib.hid FX
        have OX := Lib.hid OX
        clear hI1
        cases hpx : p x with
        | true =>
          have HPX := Lib.hid hpx
          clear hpx
          go_wp2_with (refine hd.mono ?_; rintro e w2 ⟨rfl, b2⟩; rw [HPX.out])
          go_roundw
          case rel => exact ⟨q, j + 1, cur, rfl, by go_num, by omega, by omega, Lib.hid (HS.out.skip hjl (by rw [← HX.out]; exact HPX.out)), Lib.hid (own_below OX.out b2), Lib.hid (FX.out.then_below b2)⟩
          case measure => simp [intOf]; omega
        | false =>
          have HPX := Lib.hid hpx
          clear hpx
          have hqn : q < n := by omega
          have hqc : q < cur.length := by omega
          go_wp2_with (refine hd.mono ?_; rintro e w2 ⟨rfl, b2⟩; rw [HPX.out]; have O2 := own_below OX.out b2; have FX := FX.out.then_below b2; obtain q0 := Own.at_ O2 q hqc; have fr := O2.frozenAt; have fz0 := fr q; clear fr; have O2 := Lib.hid O2; have FX := Lib.hid FX)
          go_roundw
          case rel => exact ⟨q + 1, j + 1, cur.set q x, by go_num, by go_num, by omega, by omega, Lib.hid (by have := HS.out.keep hjl (by rw [← HX.out]; exact HPX.out); rw [← HX.out] at this; exact this), Lib.hid (own_set O2.out q x), Lib.hid (by have FX := FX.out; exact FX.setCell (p := ⟨g, q, none⟩) (.inl rfl) _)⟩
          case measure => simp [intOf]; omega
      · have hj : j = n := by omega
        subst hj
        have hqc : q ≤ c := by omega
        have HO2 := HW.out
        rcases HO2.2 with ⟨h1, _⟩ | ⟨g', cap, cs, hv, hB, hh, hc, hm2, hs, ht⟩
        · cases h1
        injection hv with h1 h2 h3
        injection h1 with h1
        injection h1 with h1
        subst h1; subst h3
        have HH := Lib.hid hh
        have HT := Lib.hid ht
        have HSZ := Lib.hid hs
        have hzv : (zeroValue 9).run Try.prog wr = .ok (.string ByteArray.empty) wr := by first | (go_simp; done) | (go_simp; rfl)
        have hft : q + (j - q) * (Value.cells (.string ByteArray.empty)).size ≤ cs.size := by rw [hs, show (Value.cells (.string ByteArray.empty)).size = 1 from rfl]; omega
        clear hh ht hs HO2
        go_wp2_with (refine wpList_clear_own rfl (.tmp 38) 56 rfl 9 _ Try.underlying56 hzv g (q) (j - q) (c - q) rfl cs 9 HH.out hft (zeros_one _) ?_; intro w3 cs3 hs3 ht3 hh3 hf3)
        go_ret
        refine ⟨q, rfl, ?_, hf3.out _ HF.out⟩
        obtain ⟨d1, d2, d3, d4, d5⟩ := HS.out
        have hjn : j = l.length := HN.out
        rw [hjn, List.take_length] at d4
        have hfl : (l.filter (fun x => !p x)).length = q := by rw [← d4, List.length_take]; omega
        refine ⟨by rw [flat_length, hfl], .inr ⟨g, c, cs3, rfl, hB, hh3.out, hqc, hm2, by rw [hs3]; exact HSZ.out, ?_⟩⟩
        rw [show q * 1 = q by omega, ht3.out, ← d4, flat_take, ← HT.out, List.take_take]
        congr 1
        have := Nat.mul_le_mul_right 1 (Nat.le_of_lt hqj)
        omega

end CS
end Go.Proofs.Ythchppnfffllnaa
