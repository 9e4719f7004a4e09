/- HeapPlays: made, step at any kind, and what is known of all pairs. -/
import Derived.Test.YtcppiidfaaafeaaStep2
set_option linter.unusedVariables false
set_option linter.unusedSimpArgs false
namespace Go.Proofs.Ytcppiidfaaafeaa
open Go.RowKit Pl
theorem step_any {B : Nat} {w : World} {hb rb : Nat} {o : Int} {v u : Value} {M : Nat} (T : Twin B w hb rb o v u M) (hB : B ≤ w.heap.size) (hM : (M + 1) * 24 ≤ 140737488355328) (kd on key name : Int) :
    Calls Try.prog 10 #[.agg #[.pointer (some ⟨hb, 0, none⟩), .pointer (some ⟨rb, 0, none⟩)], .agg #[.int .i64 kd, .int .i64 on, .int .i64 key], .int .i64 name] w fun e w' =>
      e = .returned (.bool true) ∧ ∃ v' u', Twin B w' hb rb o v' u' (M + 1) ∧ Frs w w' (Own hb rb v u) ∧ Moved w v v' ∧ Moved w u u' := by
  have up : ∀ {e : Ending} {w' : World}, (e = .returned (.bool true) ∧ ∃ v' u', Twin B w' hb rb o v' u' M ∧ Frs w w' (Own hb rb v u) ∧ Moved w v v' ∧ Moved w u u') → (e = .returned (.bool true) ∧ ∃ v' u', Twin B w' hb rb o v' u' (M + 1) ∧ Frs w w' (Own hb rb v u) ∧ Moved w v v' ∧ Moved w u u') := by
    rintro e w' ⟨h1, v', u', h2, h3⟩
    exact ⟨h1, v', u', h2.mono (by omega), h3⟩
  by_cases h1 : kd = 1
  · subst h1; exact step_push T hB hM on key name
  · obtain ⟨l, R, nx, T⟩ := T
    by_cases h2 : kd = 2
    · subst h2
      rcases Nat.eq_zero_or_pos R.length with h0 | h0
      · exact (step_pop_no T hB hM (List.eq_nil_of_length_eq_zero h0) on key name).mono fun _ _ => up
      · exact (step_pop_yes T hB hM h0 on key name).mono fun _ _ => up
    · by_cases h3 : kd = 3
      · subst h3
        rcases Nat.eq_zero_or_pos R.length with h0 | h0
        · exact (step_peek_no T hB hM (List.eq_nil_of_length_eq_zero h0) on key name).mono fun _ _ => up
        · exact (step_peek_yes T hB hM h0 on key name).mono fun _ _ => up
      · refine (step_else T kd on key name h1 h2 h3).mono ?_
        rintro e w' ⟨rfl, hb'⟩
        exact ⟨rfl, v, u, (Twin.below ⟨l, R, nx, T⟩ hb').mono (by omega), Frs.of_below _ hb', Moved.refl _ _, Moved.refl _ _⟩
theorem step_pop {B : Nat} {w : World} {hb rb : Nat} {o : Int} {v u : Value} {M : Nat} (T : Twin B w hb rb o v u M) (hB : B ≤ w.heap.size) (hM : (M + 1) * 24 ≤ 140737488355328) (on key name : Int) :
    Calls Try.prog 10 #[.agg #[.pointer (some ⟨hb, 0, none⟩), .pointer (some ⟨rb, 0, none⟩)], .agg #[.int .i64 2, .int .i64 on, .int .i64 key], .int .i64 name] w fun e w' =>
      e = .returned (.bool true) ∧ ∃ v' u', Twin B w' hb rb o v' u' M ∧ Frs w w' (Own hb rb v u) ∧ Moved w v v' ∧ Moved w u u' := by
  obtain ⟨l, R, nx, T⟩ := T
  rcases Nat.eq_zero_or_pos R.length with h0 | h0
  · exact step_pop_no T hB hM (List.eq_nil_of_length_eq_zero h0) on key name
  · exact step_pop_yes T hB hM h0 on key name
set_option maxHeartbeats 400000 in
theorem made_c {B : Nat} (o : Int) (w : World) (hB : B ≤ w.heap.size) :
    Calls Try.prog 7 #[.int .i64 o] w fun e w' => e = .returned (.pointer (some ⟨w.heap.size, 0, none⟩)) ∧ HT.Heap B w' w.heap.size (fo o) (.slice none 0 0) [] 0 ∧ Below w.heap.size w w' := by
  by_cases h0 : o = 0
  · subst h0
    go_enter Try.func7, Try.ntmps7
    go_wp2_with fail
    refine (HT.new_c (B := B) 20 w hB).mono ?_
    rintro e w1 ⟨rfl, H, b⟩
    go_wp2
    go_ret
    exact ⟨rfl, H, b⟩
  · by_cases h1 : o = 1
    · subst h1
      go_enter Try.func7, Try.ntmps7
      go_wp2_with fail
      refine (HT.new_c (B := B) 31 w hB).mono ?_
      rintro e w1 ⟨rfl, H, b⟩
      go_wp2
      go_ret
      exact ⟨rfl, H, b⟩
    · have e0 : (o == 0) = false := by simp [h0]
      have e1 : (o == 1) = false := by simp [h1]
      have hf : fo o = 32 := by simp [fo, h0, h1]
      rw [hf]
      go_enter Try.func7, Try.ntmps7
      go_wp2_with fail
      refine (HT.new_c (B := B) 32 w hB).mono ?_
      rintro e w1 ⟨rfl, H, b⟩
      go_wp2
      go_ret
      exact ⟨rfl, H, b⟩

structure Tw where
  hb : Nat
  rb : Nat
  v : Value
  u : Value
def cP (p : Tw) : List Value := [.pointer (some ⟨p.hb, 0, none⟩), .pointer (some ⟨p.rb, 0, none⟩)]
def flatP (l : List Tw) : List Value := l.flatMap cP
theorem flatP_append (l m : List Tw) : flatP (l ++ m) = flatP l ++ flatP m := by simp [flatP]
theorem flatP_length (l : List Tw) : (flatP l).length = l.length * 2 := by
  induction l with
  | nil => rfl
  | cons a l ih => simp only [flatP, List.flatMap_cons, List.length_append, cP, List.length_cons, List.length_nil] at ih ⊢; omega
theorem flatP_get (l : List Tw) (i j : Nat) (hi : i < l.length) (hj : j < 2) : (flatP l)[i * 2 + j]? = (cP l[i])[j]? := by
  induction l generalizing i with
  | nil => simp at hi
  | cons a l ih =>
    have e : flatP (a :: l) = cP a ++ flatP l := rfl
    cases i with
    | zero => rw [e, Nat.zero_mul, Nat.zero_add, List.getElem?_append_left (by simp [cP]; omega)]; rfl
    | succ i =>
      rw [e, List.getElem?_append_right (by simp [cP]; omega)]
      have : (i + 1) * 2 + j - (cP a).length = i * 2 + j := by simp [cP]; omega
      rw [this, ih i (by simpa using hi)]
      rfl
/-- A pair changed in what it holds, not in where it lies. -/
theorem flatP_set (l : List Tw) (i : Nat) (p q : Tw) (hp : l[i]? = some p) (h1 : q.hb = p.hb) (h2 : q.rb = p.rb) : flatP (l.set i q) = flatP l := by
  induction l generalizing i with
  | nil => simp at hp
  | cons a l ih =>
    cases i with
    | zero => simp at hp; subst hp; simp [flatP, cP, h1, h2]
    | succ i => simp at hp; have := ih i hp; simp only [flatP, List.set_cons_succ, List.flatMap_cons] at this ⊢; rw [this]

/-- All pairs, and that they lie apart. -/
structure State (B : Nat) (w : World) (o : Int) (ps : List Tw) (M : Nat) : Prop where
  tw : ∀ (i : Nat) p, ps[i]? = some p → Twin B w p.hb p.rb o p.v p.u M
  ap : ∀ (i j : Nat) p q, i ≠ j → ps[i]? = some p → ps[j]? = some q → p.hb ≠ q.hb ∧ p.rb ≠ q.rb ∧ NeRow p.v q.v ∧ NeRow p.u q.u
theorem State.below {B : Nat} {w w' : World} {o : Int} {ps : List Tw} {M : Nat} (h : State B w o ps M) (hb : Below w.heap.size w w') : State B w' o ps M :=
  ⟨fun i p hp => (h.tw i p hp).below hb, h.ap⟩
theorem State.mono {B : Nat} {w : World} {o : Int} {ps : List Tw} {M M' : Nat} (h : State B w o ps M) (hM : M ≤ M') : State B w o ps M' := ⟨fun i p hp => (h.tw i p hp).mono hM, h.ap⟩
theorem own_frs {w w' : World} {S : Nat → Prop} {base e size n : Nat} {v : Value} {xs : List Value} (h : w.ownsRow base e size v n xs) (F : Frs w w' S) (hn : ∀ k, v.ownBlock = some k → ¬ S k) : w'.ownsRow base e size v n xs := by
  refine ⟨h.1, ?_⟩
  rcases h.2 with h2 | ⟨g, cap, cur, rfl, hb, hh, r⟩
  · exact .inl h2
  · exact .inr ⟨g, cap, cur, rfl, hb, (F.block g (blk_lt hh) (hn g rfl)).trans hh, r⟩
/-- Another pair, behind a call on this one. -/
theorem Twin.frs {B : Nat} {w w' : World} {hb rb hb' rb' : Nat} {o : Int} {v u v' u' : Value} {M M' : Nat} (T' : Twin B w hb' rb' o v' u' M') (T : Twin B w hb rb o v u M) (F : Frs w w' (Own hb rb v u))
    (h1 : hb' ≠ hb) (h2 : rb' ≠ rb) (h3 : NeRow v' v) (h4 : NeRow u' u) : Twin B w' hb' rb' o v' u' M' := by
  obtain ⟨l, R, nx, T⟩ := T
  obtain ⟨l', R', nx', T'⟩ := T'
  refine ⟨l', R', nx', ⟨T'.hp.base, ?_, ?_⟩, ⟨T'.rf.base, ?_, ?_⟩, T'.hs, T'.n0, T'.n1, T'.ln⟩
  · refine (F.block hb' (blk_lt T'.hp.blk) ?_).trans T'.hp.blk
    rintro (h | h | h | h)
    · exact h1 h
    · exact blk_ne T'.hp.blk T.rf.blk (by decide) h
    · exact ne_blk T.hp.own T'.hp.blk (by decide) h
    · exact ne_blk T.rf.own T'.hp.blk (by decide) h
  · refine own_frs T'.hp.own F (fun k hk => ?_)
    rintro (h | h | h | h)
    · subst h; exact ne_blk T'.hp.own T.hp.blk (by decide) hk
    · subst h; exact ne_blk T'.hp.own T.rf.blk (by decide) hk
    · exact h3 k hk h
    · exact ne_of_types T'.hp.own T.rf.own (by decide) k hk h
  · refine (F.block rb' (blk_lt T'.rf.blk) ?_).trans T'.rf.blk
    rintro (h | h | h | h)
    · exact blk_ne T'.rf.blk T.hp.blk (by decide) h
    · exact h2 h
    · exact ne_blk T.hp.own T'.rf.blk (by decide) h
    · exact ne_blk T.rf.own T'.rf.blk (by decide) h
  · refine own_frs T'.rf.own F (fun k hk => ?_)
    rintro (h | h | h | h)
    · subst h; exact ne_blk T'.rf.own T.hp.blk (by decide) hk
    · subst h; exact ne_blk T'.rf.own T.rf.blk (by decide) hk
    · exact ne_of_types T'.rf.own T.hp.own (by decide) k hk h
    · exact h4 k hk h
/-- A row of pairs (type 31) behind a call on a pair; a block of another type. -/
theorem Twin.row {B : Nat} {w w' : World} {hb rb : Nat} {o : Int} {v u : Value} {M : Nat} (T : Twin B w hb rb o v u M) (F : Frs w w' (Own hb rb v u)) {b n : Nat} {s : Value} {xs : List Value} (h : w.ownsRow b 31 2 s n xs) : w'.ownsRow b 31 2 s n xs := by
  obtain ⟨l, R, nx, T⟩ := T
  refine own_frs h F (fun k hk => ?_)
  rintro (e | e | e | e)
  · subst e; exact ne_blk h T.hp.blk (by decide) hk
  · subst e; exact ne_blk h T.rf.blk (by decide) hk
  · exact ne_of_types h T.hp.own (by decide) k hk e
  · exact ne_of_types h T.rf.own (by decide) k hk e
theorem Twin.base_ge {B : Nat} {w : World} {hb rb : Nat} {o : Int} {v u : Value} {M : Nat} (T : Twin B w hb rb o v u M) : ∀ k, Own hb rb v u k → B ≤ k := by
  obtain ⟨l, R, nx, T⟩ := T
  rintro k (e | e | e | e)
  · rw [e]; exact T.hp.base
  · rw [e]; exact T.rf.base
  · exact (T.hp.own.lt k e).1
  · exact (T.rf.own.lt k e).1
theorem Frs.below {w w' : World} {S : Nat → Prop} {B : Nat} (F : Frs w w' S) (hB : B ≤ w.heap.size) (h : ∀ k, S k → B ≤ k) : Below B w w' :=
  ⟨F.os, F.tape, F.output, F.size, fun k hk => F.block k (by omega) (fun e => by have := h k e; omega)⟩
theorem State.step {B : Nat} {w w' : World} {o : Int} {ps : List Tw} {M M' : Nat} (h : State B w o ps M) (i : Nat) (p : Tw) (hp : ps[i]? = some p) {v' u' : Value}
    (T : Twin B w' p.hb p.rb o v' u' M') (hM : M ≤ M') (F : Frs w w' (Own p.hb p.rb p.v p.u)) (hv : Moved w p.v v') (hu : Moved w p.u u') : State B w' o (ps.set i ⟨p.hb, p.rb, v', u'⟩) M' := by
  have hil := (List.getElem?_eq_some_iff.1 hp).1
  have hT := h.tw i p hp
  constructor
  · intro j q hq
    by_cases hij : i = j
    · subst hij
      rw [List.getElem?_set_self hil] at hq
      cases hq
      exact T
    · rw [List.getElem?_set_ne hij] at hq
      obtain ⟨a, b, c, d⟩ := h.ap j i q p (Ne.symm hij) hq hp
      exact ((h.tw j q hq).frs hT F a b c d).mono hM
  · intro j k q r hjk hq hr
    by_cases hij : i = j
    · subst hij
      rw [List.getElem?_set_self hil] at hq
      cases hq
      rw [List.getElem?_set_ne hjk] at hr
      obtain ⟨a, b, c, d⟩ := h.ap k i r p (Ne.symm hjk) hr hp
      obtain ⟨l', R', nx', T'⟩ := h.tw k r hr
      exact ⟨Ne.symm a, Ne.symm b, (hv.ne c T'.hp.own).symm, (hu.ne d T'.rf.own).symm⟩
    · rw [List.getElem?_set_ne hij] at hq
      by_cases hik : i = k
      · subst hik
        rw [List.getElem?_set_self hil] at hr
        cases hr
        obtain ⟨a, b, c, d⟩ := h.ap j i q p hjk hq hp
        obtain ⟨l', R', nx', T'⟩ := h.tw j q hq
        exact ⟨a, b, hv.ne c T'.hp.own, hu.ne d T'.rf.own⟩
      · rw [List.getElem?_set_ne hik] at hr
        exact h.ap j k q r hjk hq hr
/-- One more pair, in new blocks. -/
theorem State.add {B : Nat} {w w' : World} {o : Int} {ps : List Tw} {M : Nat} (h : State B w o ps M) (hb : Below w.heap.size w w') (q : Tw) (T : Twin B w' q.hb q.rb o q.v q.u M)
    (h1 : w.heap.size ≤ q.hb) (h2 : w.heap.size ≤ q.rb) (h3 : ∀ k, q.v.ownBlock = some k → w.heap.size ≤ k) (h4 : ∀ k, q.u.ownBlock = some k → w.heap.size ≤ k) : State B w' o (ps ++ [q]) M := by
  have old : ∀ (j : Nat) p, ps[j]? = some p → p.hb ≠ q.hb ∧ p.rb ≠ q.rb ∧ NeRow p.v q.v ∧ NeRow p.u q.u := by
    intro j p hp
    obtain ⟨l', R', nx', T'⟩ := h.tw j p hp
    have a := blk_lt T'.hp.blk
    have b := blk_lt T'.rf.blk
    refine ⟨by omega, by omega, fun k hk hk' => ?_, fun k hk hk' => ?_⟩
    · have := (T'.hp.own.lt k hk).2; have := h3 k hk'; omega
    · have := (T'.rf.own.lt k hk).2; have := h4 k hk'; omega
  constructor
  · intro j p hp
    rcases Nat.lt_trichotomy j ps.length with hj | hj | hj
    · rw [List.getElem?_append_left hj] at hp
      exact (h.tw j p hp).below hb
    · subst hj
      simp at hp; subst hp; exact T
    · rw [List.getElem?_eq_none (by simp; omega)] at hp; cases hp
  · intro j k p r hjk hp hr
    rcases Nat.lt_trichotomy j ps.length with hj | hj | hj
    · rw [List.getElem?_append_left hj] at hp
      rcases Nat.lt_trichotomy k ps.length with hk | hk | hk
      · rw [List.getElem?_append_left hk] at hr
        exact h.ap j k p r hjk hp hr
      · subst hk
        simp at hr; subst hr; exact old j p hp
      · rw [List.getElem?_eq_none (by simp; omega)] at hr; cases hr
    · subst hj
      simp at hp; subst hp
      rcases Nat.lt_trichotomy k ps.length with hk | hk | hk
      · rw [List.getElem?_append_left hk] at hr
        obtain ⟨a, b, c, d⟩ := old k r hr
        exact ⟨Ne.symm a, Ne.symm b, c.symm, d.symm⟩
      · exact absurd hk.symm hjk
      · rw [List.getElem?_eq_none (by simp; omega)] at hr; cases hr
    · rw [List.getElem?_eq_none (by simp; omega)] at hp; cases hp
end Go.Proofs.Ytcppiidfaaafeaa
