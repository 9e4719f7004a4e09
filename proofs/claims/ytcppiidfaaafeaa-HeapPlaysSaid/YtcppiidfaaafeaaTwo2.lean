/- HeapTwo: 'alike' answers yes at two lists of which one is the other put in another order. -/
import Derived.Test.YtcppiidfaaafeaaTwo1
set_option linter.unusedVariables false
set_option linter.unusedSimpArgs false
namespace Go.Proofs.Ytcppiidfaaafeaa
open Go.RowKit
namespace Two
/-- How often s stands among the first m. -/
def cnt (l : List ByteArray) (s : ByteArray) (m : Nat) : Nat := (l.take m).countP (fun x => x.toList == s.toList)
theorem cnt_le (l : List ByteArray) (s : ByteArray) (m : Nat) : cnt l s m ≤ m := by
  unfold cnt; exact Nat.le_trans (List.countP_le_length) (by simp; omega)
theorem cnt_succ (l : List ByteArray) (s : ByteArray) (m : Nat) (h : m < l.length) : cnt l s (m + 1) = cnt l s m + if (l[m].toList == s.toList) then 1 else 0 := by
  unfold cnt
  rw [List.take_succ_eq_append_getElem h, List.countP_append, List.countP_cons]
  simp
theorem cnt_all (l : List ByteArray) (s : ByteArray) : cnt l s l.length = l.countP (fun x => x.toList == s.toList) := by unfold cnt; rw [List.take_length]
theorem ret_b {a b : Bool} (h : a = b) : Ending.returned (.bool a) = .returned (.bool b) := by rw [h]

set_option maxHeartbeats 400000 in
theorem alike_zero (A A' : Option Addr) (c c' : Nat) (w : World) :
    Calls Try.prog 18 #[.slice A 0 c, .slice A' 0 c'] w fun e w' => e = .returned (.bool true) ∧ Below w.heap.size w w' := by
  go_enter Try.func18, Try.ntmps18
  go_wp2
  refine wp_loop_rounds 1 ?_
  rw [rounds_succ]
  go_wp2
  go_ret
  exact ⟨rfl, Below.refl _ _⟩
set_option maxRecDepth 100000 in
set_option maxHeartbeats 2000000 in
theorem alike_some (a b : List ByteArray) (A A' : Option Addr) (c c' : Nat) (w : World) (ho : Strs w A a) (hs : Strs w A' b) (hp : a.Perm b) (hn : b.length ≤ 1048576) (hpos : 0 < b.length) :
    Calls Try.prog 18 #[.slice A a.length c, .slice A' b.length c'] w fun e w' => e = .returned (.bool true) ∧ Below w.heap.size w w' := by
  have hl := hp.length_eq
  obtain ⟨ob, oo, rfl, hobl, hoc⟩ := ho (by omega)
  obtain ⟨sb, so, rfl, hsbl, hsc⟩ := hs hpos
  have HO := Lib.hid hoc
  have HS := Lib.hid hsc
  clear hoc hsc
  obtain ⟨n, hnn⟩ : ∃ n, n = b.length := ⟨_, rfl⟩
  rw [hl]
  rw [← hnn] at hn hl ⊢
  have HN := Lib.hid hnn
  have HL := Lib.hid hl
  clear ho hs hnn hl hpos
  go_enter Try.func18, Try.ntmps18
  go_wp2_with fail
  go_loopw [5, 6, 7, 8] (fun s5 s6 s7 s8 wr => ∃ i : Nat, s5 = .int .i64 i ∧ i ≤ n ∧ Below w.heap.size w wr) (fun s5 _ _ _ _ => n - (intOf s5).toNat)
  case atStart => exact ⟨0, rfl, by omega, Below.refl _ _⟩
  case round =>
    obtain ⟨i, rfl, hi, hb⟩ := hrel
    obtain ⟨wo, hwo⟩ : ∃ wo, wo = wr := ⟨_, rfl⟩
    subst hwo
    by_cases hlt : i < n
    · have his : i < a.length := by have := HL.out; omega
      have HXI := Lib.hid (HO.out i _ (List.getElem?_eq_getElem his))
      have HPC := Lib.hid (hp.countP_eq (fun x => x.toList == a[i].toList))
      generalize a[i] = x at *
      have i1 : (0 : Int) ≤ (i : Int) := by omega
      have i2 : (i : Int) < (n : Int) := by omega
      go_wp2_with fail
      go_loopw [6, 7] (fun s6 s7 wr => ∃ j : Nat, s7 = .int .i64 j ∧ j ≤ n ∧ s6 = .int .i64 (cnt a x j) ∧ Below w.heap.size w wr) (fun _ s7 _ => n - (intOf s7).toNat)
      case atStart => exact ⟨0, rfl, by omega, by simp [cnt], hb⟩
      case round =>
        clear hb
        obtain ⟨j, rfl, hj, rfl, hb⟩ := hrel
        have hcl := cnt_le a x j
        by_cases hjn : j < n
        · have hjs : j < a.length := by have := HL.out; omega
          have HCS := Lib.hid (cnt_succ a x j hjs)
          have hxj := (hb.cell (p := ⟨ob, oo + j, none⟩) hobl).trans (HO.out j _ (List.getElem?_eq_getElem hjs))
          have hxi := (hb.cell (p := ⟨ob, oo + i, none⟩) hobl).trans HXI.out
          have HB := Lib.hid hb
          clear hb
          generalize a[j] = y at *
          generalize cnt a x j = q at *
          have j1 : (0 : Int) ≤ (j : Int) := by omega
          have j2 : (j : Int) < (n : Int) := by omega
          cases heq : (y.toList == x.toList) with
          | true =>
            have HE := Lib.hid heq
            go_wp2_with fail
            go_quiet (fail)
            go_wp2
            go_roundw
            case rel => exact ⟨j + 1, by go_num, by omega, by rw [HCS.out, HE.out]; go_num, below_drewN HB.out _⟩
            case measure => simp [intOf]; omega
          | false =>
            have HE := Lib.hid heq
            go_wp2_with fail
            go_quiet (fail)
            go_wp2
            go_roundw
            case rel => exact ⟨j + 1, by go_num, by omega, by rw [HCS.out, HE.out]; simp, below_drewN HB.out _⟩
            case measure => simp [intOf]; omega
        · have hjn2 : j = n := by omega
          subst hjn2
          have HCA := Lib.hid (show cnt a x j = cnt b x j by
            have h1 := cnt_all a x; have h2 := cnt_all b x
            rw [HL.out] at h1
            rw [← HN.out] at h2
            rw [h1, h2]; exact HPC.out)
          obtain ⟨w1, hw1⟩ : ∃ w1, w1 = wr := ⟨_, rfl⟩
          subst hw1
          go_wp2_with fail
          go_loopw [6, 8] (fun s6 s8 wr => ∃ m : Nat, s8 = .int .i64 m ∧ m ≤ j ∧ s6 = .int .i64 ((cnt a x j : Int) - cnt b x m) ∧ Below w.heap.size w wr) (fun _ s8 _ => j - (intOf s8).toNat)
          case atStart => exact ⟨0, rfl, by omega, by simp [cnt], hb⟩
          case round =>
            clear hb
            obtain ⟨m, rfl, hm, rfl, hb⟩ := hrel
            have hcm := cnt_le b x m
            by_cases hmn : m < j
            · have hms : m < b.length := by have := HN.out; omega
              have HCS := Lib.hid (cnt_succ b x m hms)
              have hxm := (hb.cell (p := ⟨sb, so + m, none⟩) hsbl).trans (HS.out m _ (List.getElem?_eq_getElem hms))
              have hxi := (hb.cell (p := ⟨ob, oo + i, none⟩) hobl).trans HXI.out
              have HB := Lib.hid hb
              clear hb
              generalize b[m] = y at *
              generalize cnt b x m = q at *
              generalize cnt a x j = q2 at *
              have j1 : (0 : Int) ≤ (m : Int) := by omega
              have j2 : (m : Int) < (j : Int) := by omega
              cases heq : (y.toList == x.toList) with
              | true =>
                have HE := Lib.hid heq
                go_wp2_with fail
                go_quiet (fail)
                go_wp2
                go_roundw
                case rel => exact ⟨m + 1, by go_num, by omega, by rw [HCS.out, HE.out]; congr 1; simp; omega, below_drewN HB.out _⟩
                case measure => simp [intOf]; omega
              | false =>
                have HE := Lib.hid heq
                go_wp2_with fail
                go_quiet (fail)
                go_wp2
                go_roundw
                case rel => exact ⟨m + 1, by go_num, by omega, by rw [HCS.out, HE.out]; simp, below_drewN HB.out _⟩
                case measure => simp [intOf]; omega
            · have hmj : m = j := by omega
              subst hmj
              have hz : ((cnt a x m : Int) - cnt b x m) = 0 := by rw [HCA.out]; omega
              rw [hz]
              clear hz hcm hcl
              go_wp2_with fail
              go_roundw
              case rel => exact ⟨i + 1, by go_num, by omega, hb⟩
              case measure => simp [intOf]; omega
    · have hin : i = n := by omega
      subst hin
      go_wp2
      go_ret
      exact ⟨rfl, hb⟩
theorem alike_c (a b : List ByteArray) (A A' : Option Addr) (c c' : Nat) (w : World) (ho : Strs w A a) (hs : Strs w A' b) (hp : a.Perm b) (hn : b.length ≤ 1048576) :
    Calls Try.prog 18 #[.slice A a.length c, .slice A' b.length c'] w fun e w' => e = .returned (.bool true) ∧ Below w.heap.size w w' := by
  rcases Nat.eq_zero_or_pos b.length with h0 | h0
  · rw [hp.length_eq, h0]; exact alike_zero A A' c c' w
  · exact alike_some a b A A' c c' w ho hs hp hn h0
end Two
end Go.Proofs.Ytcppiidfaaafeaa
