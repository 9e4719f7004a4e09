/- sink: the contract. -/
import Derived.Test.YtcppiidfaaafeaaHSPush
import Derived.Test.YtcppiidfaaafeaaPlain2
set_option linter.unusedVariables false
set_option linter.unusedSimpArgs false
namespace Go.Proofs.Ytcppiidfaaafeaa
open Go.RowKit
namespace HS
open Pl

set_option maxRecDepth 100000 in
set_option maxHeartbeats 2000000 in
theorem sink_some {f : Nat} {lt : ByteArray → ByteArray → Bool} (hF : First f lt) {B : Nat} {w : World} {hb g c : Nat} {l : List (Th ByteArray)} {nx : Int} {n : Nat} (H : Heap B w hb f (.slice (some ⟨g, 0, none⟩) n c) l nx) (hl : l.length < 140737488355328) (h0 : 0 < l.length) :
    Calls Try.prog 40 #[.pointer (some ⟨hb, 0, none⟩)] w fun e w' => e = .returned (.tuple #[]) ∧ Heap B w' hb f (.slice (some ⟨g, 0, none⟩) n c) (down lt l 0) nx ∧ Fr w w' hb (some g) := by
  have hn := H.len
  have hnb : n < 140737488355328 := by omega
  have HN := Lib.hid hn
  clear hn
  go_enter Try.func40, Try.ntmps40
  go_wp2_with fail
  go_loopw [2, 3] (fun s t wr => ∃ i : Nat, ∃ lr, s = .int .i64 i ∧ i < lr.length ∧ lr.length = l.length ∧ down lt lr i = down lt l 0 ∧ Heap B wr hb f (.slice (some ⟨g, 0, none⟩) n c) lr nx ∧ Fr w wr hb (some g)) (fun s _ _ => l.length - (intOf s).toNat)
  case atStart => exact ⟨0, l, rfl, h0, rfl, rfl, H, Fr.refl _ _ _⟩
  case round =>
    obtain ⟨i, lr, rfl, hil, hlr, hup, HR, FR⟩ := hrel
    clear H
    have e1 := blk_cell HR.blk 1
    simp at e1
    have hib : i < 140737488355328 := by omega
    have HLR := Lib.hid (hlr.trans HN.out.symm)
    have HLR2 := Lib.hid hlr
    have HUP := Lib.hid hup
    have hlb : lr.length < 140737488355328 := by omega
    clear hup
    by_cases h1 : 2 * i + 1 < lr.length
    · have hmx : ∃ m, m = 2 * i + 1 := ⟨_, rfl⟩
      obtain ⟨m, hm⟩ := hmx
      have h1' : 2 * i + 1 < n := by have := HLR.out; omega
      have hml : m < lr.length := by omega
      have him : i < m := by omega
      have hmn : m < n := by omega
      have hmb : m < 140737488355328 := by omega
      have EM := Lib.hid (show ((2 : Int) * i + 1) = (m : Int) by omega)
      have EM1 := Lib.hid (show ((m : Int) + 1) = ((m + 1 : Nat) : Int) by omega)
      by_cases h2 : m + 1 < lr.length
      · have h2' : 2 * i + 1 + 1 < n := by have := HLR.out; omega
        have h2m : m + 1 < n := by omega
        have hkk := kid_yes lt lr m h2
        clear hlr
        go_wp2_with fail
        rw [EM.out, EM1.out]
        refine (ahead_c hF HR (m + 1) m h2 hml).mono ?_
        rintro e w2 ⟨rfl, hb2⟩
        cases hK : aheadT lt lr[m + 1] lr[m] with
        | true =>
          have HKK := Lib.hid (show kid lt lr (2 * i + 1) = m + 1 by rw [← hm, hkk, hK]; rfl)
          have hkl := h2
          have e2 := blk_cell (HR.below hb2).blk 1
          simp at e2
          clear hkk hK hm
          have hkl1 : m + 1 < n := by have := HLR.out; omega
          have hil1 : i < n := by have := HLR.out; omega
          go_wp2_with fail
          rw [EM1.out]
          refine (ahead_c hF (HR.below hb2) (m + 1) i hkl hil).mono ?_
          rintro e w3 ⟨rfl, hb3⟩
          have HR2 := (HR.below hb2).below hb3
          have FR2 := (FR.then_below hb2).then_below hb3
          clear HR FR hb3
          cases hA : aheadT lt lr[m + 1] lr[i] with
          | false =>
            have HU := Lib.hid (HUP.out.symm.trans (down_stop' lt lr i _ HKK.out hkl hil hA))
            clear hA
            go_wp2
            refine bodyPost_ret (results_none rfl _ _ _) rfl ?_
            exact ⟨rfl, by rw [HU.out]; exact HR2, FR2⟩
          | true =>
            have HU := Lib.hid ((down_step' lt lr i _ HKK.out h1 hkl hil hA).symm.trans HUP.out)
            clear hA
            have e1 := blk_cell HR2.blk 1
            simp at e1
            obtain ⟨ck0, ck1⟩ := HR2.at_ (m + 1) hkl
            obtain ⟨ci0, ci1⟩ := HR2.at_ i hil
            have fr := HR2.ownN.frozenAt
            have fk0 := fr ((m + 1) * 2)
            have fk1 := fr ((m + 1) * 2 + 1)
            have fi0 := fr ((i) * 2)
            have fi1 := fr ((i) * 2 + 1)
            have n1 : ¬ (m + 1) * 2 = i * 2 := by omega
            have n2 : ¬ i * 2 = (m + 1) * 2 := by omega
            clear fr
            go_wp2_with fail
            go_region
            go_wp2_with fail
            have HR3 := (HR2.putT i lr[m + 1]).putT (m + 1) lr[i]
            have FR3 := fr_putT (fr_putT FR2 (.inl rfl) i lr[m + 1]) (.inl rfl) (m + 1) lr[i]
            go_roundw
            case rel => exact ⟨m + 1, _, rfl, by simpa using hkl, by simpa using HLR2.out, HU.out, HR3.drew, FR3.drew⟩
            case measure => have hq := HLR2.out; simp [intOf]; omega
        | false =>
          have HKK := Lib.hid (show kid lt lr (2 * i + 1) = m by rw [← hm, hkk, hK]; rfl)
          have hkl := hml
          have e2 := blk_cell (HR.below hb2).blk 1
          simp at e2
          clear hkk hK hm
          have hkl1 : m < n := by have := HLR.out; omega
          have hil1 : i < n := by have := HLR.out; omega
          go_wp2_with fail
          refine (ahead_c hF (HR.below hb2) (m) i hkl hil).mono ?_
          rintro e w3 ⟨rfl, hb3⟩
          have HR2 := (HR.below hb2).below hb3
          have FR2 := (FR.then_below hb2).then_below hb3
          clear HR FR hb3
          cases hA : aheadT lt lr[m] lr[i] with
          | false =>
            have HU := Lib.hid (HUP.out.symm.trans (down_stop' lt lr i _ HKK.out hkl hil hA))
            clear hA
            go_wp2
            refine bodyPost_ret (results_none rfl _ _ _) rfl ?_
            exact ⟨rfl, by rw [HU.out]; exact HR2, FR2⟩
          | true =>
            have HU := Lib.hid ((down_step' lt lr i _ HKK.out h1 hkl hil hA).symm.trans HUP.out)
            clear hA
            have e1 := blk_cell HR2.blk 1
            simp at e1
            obtain ⟨ck0, ck1⟩ := HR2.at_ (m) hkl
            obtain ⟨ci0, ci1⟩ := HR2.at_ i hil
            have fr := HR2.ownN.frozenAt
            have fk0 := fr ((m) * 2)
            have fk1 := fr ((m) * 2 + 1)
            have fi0 := fr ((i) * 2)
            have fi1 := fr ((i) * 2 + 1)
            have n1 : ¬ (m) * 2 = i * 2 := by omega
            have n2 : ¬ i * 2 = (m) * 2 := by omega
            clear fr
            go_wp2_with fail
            go_region
            go_wp2_with fail
            have HR3 := (HR2.putT i lr[m]).putT (m) lr[i]
            have FR3 := fr_putT (fr_putT FR2 (.inl rfl) i lr[m]) (.inl rfl) (m) lr[i]
            go_roundw
            case rel => exact ⟨m, _, rfl, by simpa using hkl, by simpa using HLR2.out, HU.out, HR3.drew, FR3.drew⟩
            case measure => have hq := HLR2.out; simp [intOf]; omega
      · have h2' : ¬ 2 * i + 1 + 1 < n := by have := HLR.out; omega
        have HKK := Lib.hid (show kid lt lr (2 * i + 1) = m by rw [← hm]; exact kid_no lt lr m h2)
        have hkl := hml
        clear hm hlr
        have hkl1 : m < n := by have := HLR.out; omega
        have hil1 : i < n := by have := HLR.out; omega
        go_wp2_with fail
        rw [EM.out]
        refine (ahead_c hF (HR) (m) i hkl hil).mono ?_
        rintro e w3 ⟨rfl, hb3⟩
        have HR2 := (HR).below hb3
        have FR2 := (FR).then_below hb3
        clear HR FR hb3
        cases hA : aheadT lt lr[m] lr[i] with
        | false =>
          have HU := Lib.hid (HUP.out.symm.trans (down_stop' lt lr i _ HKK.out hkl hil hA))
          clear hA
          go_wp2
          refine bodyPost_ret (results_none rfl _ _ _) rfl ?_
          exact ⟨rfl, by rw [HU.out]; exact HR2, FR2⟩
        | true =>
          have HU := Lib.hid ((down_step' lt lr i _ HKK.out h1 hkl hil hA).symm.trans HUP.out)
          clear hA
          have e1 := blk_cell HR2.blk 1
          simp at e1
          obtain ⟨ck0, ck1⟩ := HR2.at_ (m) hkl
          obtain ⟨ci0, ci1⟩ := HR2.at_ i hil
          have fr := HR2.ownN.frozenAt
          have fk0 := fr ((m) * 2)
          have fk1 := fr ((m) * 2 + 1)
          have fi0 := fr ((i) * 2)
          have fi1 := fr ((i) * 2 + 1)
          have n1 : ¬ (m) * 2 = i * 2 := by omega
          have n2 : ¬ i * 2 = (m) * 2 := by omega
          clear fr
          go_wp2_with fail
          go_region
          go_wp2_with fail
          have HR3 := (HR2.putT i lr[m]).putT (m) lr[i]
          have FR3 := fr_putT (fr_putT FR2 (.inl rfl) i lr[m]) (.inl rfl) (m) lr[i]
          go_roundw
          case rel => exact ⟨m, _, rfl, by simpa using hkl, by simpa using HLR2.out, HU.out, HR3.drew, FR3.drew⟩
          case measure => have hq := HLR2.out; simp [intOf]; omega
    · have HU := Lib.hid (HUP.out.symm.trans (down_end lt lr i h1))
      have h1' : ¬ 2 * i + 1 < n := by have := HLR.out; omega
      clear hlr
      go_wp2
      refine bodyPost_ret (results_none rfl _ _ _) rfl ?_
      exact ⟨rfl, by rw [HU.out]; exact HR, FR⟩
theorem sink_zero {f : Nat} {B : Nat} {w : World} {hb c g : Nat} {nx : Int} (H : Heap B w hb f (.slice (some ⟨g, 0, none⟩) 0 c) [] nx) :
    Calls Try.prog 40 #[.pointer (some ⟨hb, 0, none⟩)] w fun e w' => e = .returned (.tuple #[]) ∧ w = w' := by
  have h1 := blk_cell H.blk 1
  simp at h1
  clear H
  go_enter Try.func40, Try.ntmps40
  go_wp2_with fail
  refine wp_loop_rounds 1 ?_
  rw [rounds_succ]
  go_wp2
  refine bodyPost_ret (results_none rfl _ _ _) rfl ?_
  exact ⟨rfl, rfl⟩

end HS
end Go.Proofs.Ytcppiidfaaafeaa
