/- HeapTwo: 'sorted' and 'alike' answer yes at what they must. -/
import Derived.Test.YtcppiidfaaafeaaBase
import Derived.Laws.MakeOwn
import Derived.Laws.Entries
set_option linter.unusedVariables false
set_option linter.unusedSimpArgs false
namespace Go.Proofs.Ytcppiidfaaafeaa
open Go.RowKit
namespace Two

/-- A slice of texts that reads as ss. -/
def Strs (w : World) (A : Option Addr) (ss : List ByteArray) : Prop := 0 < ss.length → ∃ b off, A = some ⟨b, off, none⟩ ∧ b < w.heap.size ∧ ∀ (j : Nat) p, ss[j]? = some p → w.cell? ⟨b, off + j, none⟩ = some (.string p)
theorem Strs.below {w w1 : World} {A : Option Addr} {ss : List ByteArray} (h : Strs w A ss) (hb : Below w.heap.size w w1) : Strs w1 A ss := fun h0 => by
  obtain ⟨b, off, hA, hlt, hc⟩ := h h0
  exact ⟨b, off, hA, Nat.lt_of_lt_of_le hlt hb.size, fun j p hp => (hb.cell (p := ⟨b, off + j, none⟩) hlt).trans (hc j p hp)⟩

theorem run_make_rowN {P : Program} (t e : TypeId) (i : TypeInfo) (z : Value) (ht : P.underlying t = some (.slice e)) (hi : P.info? e = some i) (hz : i.zero = some z)
    (kl kc : IntKind) (n c : Nat) (hnc : n ≤ c) (hbytes : i.bytes * c ≤ 281474976710656) (h63 : c ≤ 9223372036854775807) (w : World) :
    (Instr.makeSlice t (.int kl (n : Int)) (.int kc (c : Int))).run P w = .ok (.slice (some ⟨w.heap.size, 0, none⟩) n c) (w.alloc (.cells (madeCells z.cells (c * i.size)) e)) := by
  have hb : (i.bytes : Int) * (c : Int) ≤ 281474976710656 := by
    have h : ((i.bytes * c : Nat) : Int) ≤ 281474976710656 := by omega
    rwa [Int.natCast_mul] at h
  have hr := run_make (P := P) w t e i z ht hi hz kl kc n c (by omega) (by omega) hb (by omega)
  simp only [Int.toNat_natCast] at hr
  exact hr
def flags (U : List Bool) : Array Value := (U.map Value.bool).toArray
theorem flags_made (n : Nat) : madeCells #[Value.bool false] n = flags (List.replicate n false) := by
  apply Array.toList_inj.1
  rw [toList_madeCells_one]
  simp [flags]
theorem flags_get (U : List Bool) (j : Nat) (b : Bool) (h : U[j]? = some b) : (flags U)[j]? = some (.bool b) := by simp [flags, h]
theorem flags_set (U : List Bool) (j : Nat) (b : Bool) : (flags U).setIfInBounds j (.bool b) = flags (U.set j b) := by
  apply Array.toList_inj.1
  simp [flags, List.map_set]

def sz (ss : List ByteArray) (i : Nat) : Nat := (ss.getD i ByteArray.empty).size
/-- The first of the shortest that are not used yet, looked for below j; -1: none. -/
def Up (ss : List ByteArray) (U : List Bool) (j : Nat) (k : Int) : Prop :=
  (k = -1 ∧ ∀ i, i < j → U[i]? = some true) ∨
  (∃ κ : Nat, k = κ ∧ κ < j ∧ U[κ]? = some false ∧ (∀ i, i < κ → U[i]? = some false → sz ss κ < sz ss i) ∧ (∀ i, κ ≤ i → i < j → U[i]? = some false → sz ss κ ≤ sz ss i))
def IsMin (ss : List ByteArray) (U : List Bool) (κ : Nat) : Prop :=
  U[κ]? = some false ∧ (∀ i, i < κ → U[i]? = some false → sz ss κ < sz ss i) ∧ (∀ i, κ ≤ i → U[i]? = some false → sz ss κ ≤ sz ss i)
theorem Up.min {ss : List ByteArray} {U : List Bool} {k : Int} {κ : Nat} (h : Up ss U U.length k) (m : IsMin ss U κ) : k = κ := by
  have hκ : κ < U.length := (List.getElem?_eq_some_iff.1 m.1).1
  rcases h with ⟨_, h⟩ | ⟨κ', rfl, h1, h2, h3, h4⟩
  · have := h κ hκ; rw [m.1] at this; cases this
  · rcases Nat.lt_trichotomy κ κ' with h | h | h
    · have a := h3 κ h m.1; have b := m.2.2 κ' (by omega) h2; omega
    · rw [h]
    · have a := m.2.1 κ' h h2; have b := h4 κ (by omega) hκ m.1; omega
theorem Up.skip {ss : List ByteArray} {U : List Bool} {j : Nat} {k : Int} (h : Up ss U j k) (hu : U[j]? = some true) : Up ss U (j + 1) k := by
  rcases h with ⟨h1, h⟩ | ⟨κ, h1, h2, h3, h4, h5⟩
  · refine .inl ⟨h1, fun i hi => ?_⟩
    rcases Nat.lt_or_eq_of_le (Nat.le_of_lt_succ hi) with h' | rfl
    · exact h i h'
    · exact hu
  · refine .inr ⟨κ, h1, by omega, h3, h4, fun i hi hij hf => ?_⟩
    rcases Nat.lt_or_eq_of_le (Nat.le_of_lt_succ hij) with h' | rfl
    · exact h5 i hi h' hf
    · rw [hu] at hf; cases hf
theorem Up.first {ss : List ByteArray} {U : List Bool} {j : Nat} (h : Up ss U j (-1)) (hu : U[j]? = some false) : Up ss U (j + 1) (j : Int) := by
  rcases h with ⟨_, h⟩ | ⟨κ, h1, _⟩
  · refine .inr ⟨j, rfl, by omega, hu, fun i hi hf => ?_, fun i hi hij hf => ?_⟩
    · have := h i hi; rw [hf] at this; cases this
    · have : i = j := by omega
      subst this; exact Nat.le_refl _
  · omega
theorem Up.keep {ss : List ByteArray} {U : List Bool} {j κ : Nat} (h : Up ss U j (κ : Int)) (hs : ¬ sz ss j < sz ss κ) : Up ss U (j + 1) (κ : Int) := by
  rcases h with ⟨h1, h⟩ | ⟨κ', h1, h2, h3, h4, h5⟩
  · omega
  · have : κ' = κ := by omega
    subst this
    refine .inr ⟨κ', rfl, by omega, h3, h4, fun i hi hij hf => ?_⟩
    rcases Nat.lt_or_eq_of_le (Nat.le_of_lt_succ hij) with h' | rfl
    · exact h5 i hi h' hf
    · omega
theorem Up.take {ss : List ByteArray} {U : List Bool} {j κ : Nat} (h : Up ss U j (κ : Int)) (hu : U[j]? = some false) (hs : sz ss j < sz ss κ) : Up ss U (j + 1) (j : Int) := by
  rcases h with ⟨h1, h⟩ | ⟨κ', h1, h2, h3, h4, h5⟩
  · omega
  · have : κ' = κ := by omega
    subst this
    refine .inr ⟨j, rfl, by omega, hu, fun i hi hf => ?_, fun i hi hij hf => ?_⟩
    · rcases Nat.lt_or_ge i κ' with h' | h'
      · have := h4 i h' hf; omega
      · have := h5 i h' hi hf; omega
    · have : i = j := by omega
      subst this; exact Nat.le_refl _
/-- The texts os are what is told, one after the other. -/
def Good (ss : List ByteArray) : List Bool → List ByteArray → Prop
  | _, [] => True
  | U, s :: os => ∃ κ, IsMin ss U κ ∧ ss[κ]? = some s ∧ Good ss (U.set κ true) os

theorem bool_info : (Try.prog.info? 4).map (fun i => (i.zero, i.size, i.bytes)) = some (some (.bool false), 1, 1) := by kernel_rfl

set_option maxHeartbeats 400000 in
theorem sorted_zero (A A' : Option Addr) (c c' : Nat) (w : World) :
    Calls Try.prog 17 #[.slice A 0 c, .slice A' 0 c'] w fun e w' => e = .returned (.bool true) ∧ Below w.heap.size w w' := by
  obtain ⟨i0, hi0, hz0, hz1, hz2⟩ := info_parts bool_info
  have hmk : ∀ W : World, (Instr.makeSlice 75 (.int .i64 0) (.int .i64 0)).run Try.prog W = .ok (.slice (some ⟨W.heap.size, 0, none⟩) 0 0) (W.alloc (.cells (madeCells (Value.bool false).cells (0 * 1)) 4)) := fun W => by
    have := run_make_rowN (P := Try.prog) 75 4 i0 (.bool false) Try.underlying75 hi0 hz0 .i64 .i64 0 0 (Nat.le_refl _) (by omega) (by omega) W
    rw [hz1] at this
    exact this
  clear hi0 hz0 hz1 hz2
  go_enter Try.func17, Try.ntmps17
  go_wp2
  refine wp_loop_rounds 1 ?_
  rw [rounds_succ]
  go_wp2
  go_ret
  exact ⟨rfl, (Below.refl _ _).alloc (Nat.le_refl _) _⟩
set_option maxRecDepth 100000 in
set_option maxHeartbeats 2000000 in
theorem sorted_some (os ss : List ByteArray) (A A' : Option Addr) (c c' : Nat) (w : World) (ho : Strs w A os) (hs : Strs w A' ss) (hl : os.length = ss.length) (hn : ss.length ≤ 1048576) (hpos : 0 < ss.length)
    (hg : Good ss (List.replicate ss.length false) os) :
    Calls Try.prog 17 #[.slice A os.length c, .slice A' ss.length c'] w fun e w' => e = .returned (.bool true) ∧ Below w.heap.size w w' := by
  obtain ⟨i0, hi0, hz0, hz1, hz2⟩ := info_parts bool_info
  have hmk : ∀ W : World, (Instr.makeSlice 75 (.int .i64 (ss.length : Int)) (.int .i64 (ss.length : Int))).run Try.prog W = .ok (.slice (some ⟨W.heap.size, 0, none⟩) ss.length ss.length) (W.alloc (.cells (flags (List.replicate ss.length false)) 4)) := fun W => by
    have := run_make_rowN (P := Try.prog) 75 4 i0 (.bool false) Try.underlying75 hi0 hz0 .i64 .i64 ss.length ss.length (Nat.le_refl _) (by rw [hz2]; omega) (by omega) W
    rw [hz1, Nat.mul_one] at this
    rw [← flags_made]; exact this
  obtain ⟨n, hnn⟩ : ∃ n, n = ss.length := ⟨_, rfl⟩
  rw [hl]
  rw [← hnn] at hmk hn hg hl ⊢
  obtain ⟨ob, oo, rfl, hobl, hoc⟩ := ho (by omega)
  obtain ⟨sb, so, rfl, hsbl, hsc⟩ := hs hpos
  have HO := Lib.hid hoc
  have HS := Lib.hid hsc
  clear hoc hsc
  have HN := Lib.hid hnn
  have HL := Lib.hid hl
  clear ho hs hnn hl hpos hi0 hz0 hz1 hz2
  go_enter Try.func17, Try.ntmps17
  go_wp2
  obtain ⟨ub, hub⟩ : ∃ ub, ub = w.heap.size := ⟨_, rfl⟩
  have hk0 : (w.alloc (.cells (flags (List.replicate n false)) 4)).heap[ub]? = some (.cells (flags (List.replicate n false)) 4 (0, 0)) := by rw [hub]; exact heap_alloc_new _ _
  rw [← hub]
  have hb0 : Below ub w (w.alloc (.cells (flags (List.replicate n false)) 4)) := by rw [hub]; exact (Below.refl _ _).alloc (Nat.le_refl _) _
  have HUB := Lib.hid hub
  clear hub hmk
  go_loopw [6, 7, 8] (fun s6 s7 s8 wr => ∃ (i : Nat) (U : List Bool), s6 = .int .i64 i ∧ i ≤ n ∧ U.length = n ∧ wr.heap[ub]? = some (.cells (flags U) 4 (0, 0)) ∧ Good ss U (os.drop i) ∧ Below ub w wr) (fun s6 _ _ _ => n - (intOf s6).toNat)
  case atStart => exact ⟨0, _, rfl, by omega, by simp, hk0, hg, hb0⟩
  case round =>
    clear hk0 hg hb0
    obtain ⟨i, U, rfl, hi, hU, hk, hg, hb⟩ := hrel
    obtain ⟨wo, hwo⟩ : ∃ wo, wo = wr := ⟨_, rfl⟩
    subst hwo
    have HU := Lib.hid hU
    clear hU
    by_cases hlt : i < n
    · go_wp2_with fail
      go_loopw [7, 8] (fun s7 s8 wr => ∃ (j : Nat) (k : Int), s8 = .int .i64 j ∧ j ≤ n ∧ s7 = .int .i64 k ∧ Up ss U j k ∧ wr.heap[ub]? = some (.cells (flags U) 4 (0, 0)) ∧ Below ub w wr) (fun _ s8 _ => n - (intOf s8).toNat)
      case atStart => exact ⟨0, -1, rfl, by omega, rfl, .inl ⟨rfl, by omega⟩, hk, hb⟩
      case round =>
        clear hk hb
        obtain ⟨j, k, rfl, hj, rfl, hup, hk, hb⟩ := hrel
        have hw : Below w.heap.size w wr := by rw [← HUB.out]; exact hb
        by_cases hjn : j < n
        · obtain ⟨b, hUj⟩ : ∃ b, U[j]? = some b := ⟨_, List.getElem?_eq_getElem (by have := HU.out; omega)⟩
          have hcj := (blk_cell hk j).trans (flags_get U j b hUj)
          have hjs : j < ss.length := by have := HN.out; omega
          have hsj := List.getElem?_eq_getElem hjs
          have hxj := (hw.cell (p := ⟨sb, so + j, none⟩) hsbl).trans (HS.out j _ hsj)
          have hszj : sz ss j = ss[j].size := by simp [sz, hjs]
          have HSZ := Lib.hid hszj
          have HUJ := Lib.hid hUj
          have HUP := Lib.hid hup
          have HK := Lib.hid hk
          have HB := Lib.hid hb
          clear hsj hszj hUj hup hk hb hw
          generalize ss[j] = x at *
          have i1 : (0 : Int) ≤ (j : Int) := by omega
          have i2 : (j : Int) < (n : Int) := by omega
          cases b with
          | true =>
            go_wp2_with fail
            go_quiet (fail)
            go_wp2
            go_roundw
            case rel => exact ⟨j + 1, k, by go_num, by omega, rfl, HUP.out.skip HUJ.out, HK.out, below_drewN HB.out _⟩
            case measure => simp [intOf]; omega
          | false =>
            rcases HUP.out with ⟨hk1, _⟩ | ⟨κ, hkk, hκj, _⟩
            · subst hk1
              go_wp2_with fail
              go_quiet (fail)
              go_wp2
              go_roundw
              case rel => exact ⟨j + 1, j, by go_num, by omega, rfl, HUP.out.first HUJ.out, HK.out, below_drewN HB.out _⟩
              case measure => simp [intOf]; omega
            · subst hkk
              have hκs : κ < ss.length := by omega
              have hw : Below w.heap.size w wr := by rw [← HUB.out]; exact HB.out
              have hxκ := (hw.cell (p := ⟨sb, so + κ, none⟩) hsbl).trans (HS.out κ _ (List.getElem?_eq_getElem hκs))
              have hszκ : sz ss κ = ss[κ].size := by simp [sz, hκs]
              have HSK := Lib.hid hszκ
              clear hw hszκ
              generalize ss[κ] = y at *
              have i3 : (0 : Int) ≤ (κ : Int) := by omega
              have i4 : (κ : Int) < (n : Int) := by omega
              have i5 : ¬ (κ : Int) < 0 := by omega
              by_cases hsm : x.size < y.size
              · have hd : decide (x.size < y.size) = true := decide_eq_true hsm
                go_wp2_with fail
                go_quiet (fail)
                go_wp2
                go_roundw
                case rel => exact ⟨j + 1, j, by go_num, by omega, rfl, HUP.out.take HUJ.out (by rw [HSZ.out, HSK.out]; exact hsm), HK.out, below_drewN HB.out _⟩
                case measure => simp [intOf]; omega
              · have hd : decide (x.size < y.size) = false := decide_eq_false hsm
                go_wp2_with fail
                go_quiet (fail)
                go_wp2
                go_roundw
                case rel => exact ⟨j + 1, κ, by go_num, by omega, rfl, HUP.out.keep (by rw [HSZ.out, HSK.out]; exact hsm), HK.out, below_drewN HB.out _⟩
                case measure => simp [intOf]; omega
        · have hjn2 : j = n := by omega
          subst hjn2
          have his : i < os.length := by have := HL.out; omega
          have hdrop : os.drop i = os[i] :: os.drop (i + 1) := List.drop_eq_getElem_cons his
          rw [hdrop] at hg
          obtain ⟨κ, hmin, hss, hg2⟩ := hg
          have hkκ : k = (κ : Int) := by rw [← HU.out] at hup; exact hup.min hmin
          subst hkκ
          have hκ : κ < j := by have := (List.getElem?_eq_some_iff.1 hmin.1).1; have := HU.out; omega
          have hxi := (hw.cell (p := ⟨ob, oo + i, none⟩) hobl).trans (HO.out i _ (List.getElem?_eq_getElem his))
          have hxκ := (hw.cell (p := ⟨sb, so + κ, none⟩) hsbl).trans (HS.out κ _ hss)
          have hcκ := (blk_cell hk κ).trans (flags_get U κ false hmin.1)
          have hfκ := blk_frozen hk κ
          have HG := Lib.hid hg2
          have HK := Lib.hid hk
          have HB := Lib.hid hb
          clear hdrop hss hg2 hmin hup hk hb hw
          generalize os[i] = x at *
          have i1 : (0 : Int) ≤ (i : Int) := by omega
          have i2 : (i : Int) < (j : Int) := by omega
          have i3 : (0 : Int) ≤ (κ : Int) := by omega
          have i4 : (κ : Int) < (j : Int) := by omega
          have i5 : ¬ (κ : Int) < 0 := by omega
          have i6 : decide ((κ : Int) < 0) = false := decide_eq_false i5
          go_wp2_with fail
          go_quiet (fail)
          go_wp2_with fail
          go_roundw
          case rel => exact ⟨i + 1, U.set κ true, by go_num, hlt, by have := HU.out; simpa using this, by rw [← flags_set]; exact blk_set HK.out κ _, HG.out, (below_drewN HB.out _).setCell (Nat.le_refl _) _⟩
          case measure => simp [intOf]; omega
    · have hin : i = n := by omega
      subst hin
      go_wp2
      go_ret
      exact ⟨rfl, by rw [← HUB.out]; exact hb⟩
theorem sorted_c (os ss : List ByteArray) (A A' : Option Addr) (c c' : Nat) (w : World) (ho : Strs w A os) (hs : Strs w A' ss) (hl : os.length = ss.length) (hn : ss.length ≤ 1048576)
    (hg : Good ss (List.replicate ss.length false) os) :
    Calls Try.prog 17 #[.slice A os.length c, .slice A' ss.length c'] w fun e w' => e = .returned (.bool true) ∧ Below w.heap.size w w' := by
  rcases Nat.eq_zero_or_pos ss.length with h0 | h0
  · rw [hl, h0]; exact sorted_zero A A' c c' w
  · exact sorted_some os ss A A' c c' w ho hs hl hn h0 hg
end Two
end Go.Proofs.Ytcppiidfaaafeaa
