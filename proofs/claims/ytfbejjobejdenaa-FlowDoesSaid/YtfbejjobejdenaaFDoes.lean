/- The flows: the walk of FlowDoes: words. -/
import Derived.Test.YtfbejjobejdenaaFNew2
import Derived.Test.YtfbejjobejdenaaFTaken
import Derived.Deep.DeepCutAuto
set_option linter.unusedVariables false
set_option linter.unusedSimpArgs false
namespace Go.Proofs.Ytfbejjobejdenaa.PCodeSays
open Go.RowKit Go.Proofs.YtfbejjobejdenaaW.PrintWords Go.Proofs.YtfbejjobejdenaaW.PrintLast Go.Proofs.YtfbejjobejdenaaW.PrintMore
theorem sA {α : Type} {l : List α} {i : Nat} {a : α} : l.toArray.setIfInBounds i a = (l.set i a).toArray := List.setIfInBounds_toArray ..
theorem s0 {α : Type} {x a : α} {l : List α} : (x :: l).set 0 a = a :: l := List.set_cons_zero ..
theorem s1 {α : Type} {x a : α} {l : List α} {i : Nat} : (x :: l).set (i + 1) a = x :: l.set i a := List.set_cons_succ ..
theorem take_q {P : Program} {ops : Array Oper} {Q : Exit → Act → World → Prop} {md : Region.Mode} {S : World → Prop} (i d : Nat) {oi : Oper} {v : Value} {fuel : Nat} {listed : Array Bool} {a : Act} {w : World} (hi : ops[i]? = some oi) (hd : oi.dst = some d)
    (hy : ∀ w, S w → (execOp a.eval oi).run P w = .ok (.value v) w) (hS : S w) (h : wpAnyH P md ops Q S fuel (listed.setIfInBounds i true) (a.put (some d) v) w)
    (hs : Region.noSelect ops = true := by kernel_rfl) (hf : Region.free md ops listed i = true := by kernel_rfl) (hr : (Region.ready md ops listed).contains i = true := by kernel_rfl)
    (hQ : ∀ c a w, Q (.panic c) (a.put (some d) v) w → Q (.panic c) a w := by exact fun _ _ _ h => h) (hw : Region.wanted oi (yielded ops a.tmps) = true := by kernel_rfl) : wpAnyH P md ops Q S (fuel + 1) listed a w :=
  take_d i d hi hd hs hf hr hQ hw hy hS h
theorem off_q {P : Program} {ops : Array Oper} {Q : Exit → Act → World → Prop} {md : Region.Mode} {S : World → Prop} (i d : Nat) {oi : Oper} {fuel : Nat} {listed : Array Bool} {a : Act} {w : World} (hi : ops[i]? = some oi) (hd : oi.dst = some d)
    (hS : S w) (h : wpAnyH P md ops Q S fuel (listed.setIfInBounds i true) (a.put (some d) undef) w)
    (hs : Region.noSelect ops = true := by kernel_rfl) (hf : Region.free md ops listed i = true := by kernel_rfl) (hr : (Region.ready md ops listed).contains i = true := by kernel_rfl)
    (hQ : ∀ c a w, Q (.panic c) (a.put (some d) undef) w → Q (.panic c) a w := by exact fun _ _ _ h => h) (hw : Region.wanted oi (yielded ops a.tmps) = false := by kernel_rfl) : wpAnyH P md ops Q S (fuel + 1) listed a w :=
  off_d i d hi hd hs hf hr hQ hw hS h
/-- An operator, or none. -/
def FlowOr (w : World) (B : Nat) (v : Value) (b : Bool) (kind : Int) (l : List S29) (p : T3) (bd : Int) : Prop := (b = false ∧ IsFlowB w B v kind l p bd) ∨ (b = true ∧ v = .nilIface)
section
variable {w w' : World} {B : Nat} {v : Value} {b : Bool} {kind : Int} {l : List S29} {p : T3} {bd : Int}
theorem FlowOr.below (h : FlowOr w B v b kind l p bd) (hb : Below w.heap.size w w') : FlowOr w' B v b kind l p bd := h.imp (fun h => ⟨h.1, h.2.below hb⟩) id
theorem FlowOr.keep (h : FlowOr w B v b kind l p bd) (hs : w.heap.size ≤ w'.heap.size) (hk : ∀ q : Addr, B ≤ q.block → q.block < w.heap.size → w'.cell? q = w.cell? q) : FlowOr w' B v b kind l p bd := h.imp (fun h => ⟨h.1, h.2.keep hs hk⟩) id
theorem eqn_nil (W : World) : Sem.run Try.prog (binOp .eql 53 .nilIface .nilIface) W = .ok (.bool true) W := by go_simp
theorem eqn_if (T : TypeId) (x : Value) (W : World) : Sem.run Try.prog (binOp .eql 53 (.iface T x) .nilIface) W = .ok (.bool false) W := by go_simp
theorem FlowOr.eqn (h : FlowOr w B v b kind l p bd) (W : World) : Sem.run Try.prog (binOp .eql 53 v .nilIface) W = .ok (.bool b) W := by
  rcases h with ⟨rfl, h⟩ | ⟨rfl, rfl⟩
  · obtain ⟨T, x, rfl⟩ := h.form
    exact eqn_if T x W
  · exact eqn_nil W
theorem eqg_nil (x : Operand) (W : World) : Sem.run Try.prog (eqGuard .eql 53 x (.const .nilIface) .nilIface .nilIface) W = .ok () W := by go_simp
theorem eqg_if (T : TypeId) (z : Value) (x y : Operand) (W : World) : Sem.run Try.prog (eqGuard .eql 53 x y (.iface T z) .nilIface) W = .ok () W := by go_simp
theorem FlowOr.eqg (h : FlowOr w B v b kind l p bd) (x : Operand) (W : World) : Sem.run Try.prog (eqGuard .eql 53 x (.const .nilIface) v .nilIface) W = .ok () W := by
  rcases h with ⟨rfl, h⟩ | ⟨rfl, rfl⟩
  · obtain ⟨T, z, rfl⟩ := h.form
    exact eqg_if T z x _ W
  · exact eqg_nil x W
theorem FlowOr.of {e : Int} (hb : (e != 0) = b) (h : (e = 0 ∧ IsFlowB w B v kind l p bd) ∨ (e ≠ 0 ∧ v = .nilIface)) : FlowOr w B v b kind l p bd := by
  rcases h with ⟨h, h'⟩ | ⟨h, h'⟩
  · exact .inl ⟨by rw [← hb, h]; rfl, h'⟩
  · exact .inr ⟨by rw [← hb]; simpa using h, h'⟩
end
/-- What is asked: a record at a time. -/
structure Q5 where
  t : T3
  a : Int
  b : Int
/-- The two nodes' blocks. -/
structure DN (w wx : World) (nb : Nat) (rc rd : Array Value) : Prop where
  be : Below nb w wx
  lt : nb + 2 ≤ wx.heap.size
  x0 : wx.heap[nb]? = some (.cells rc 47 (0, 0))
  x1 : wx.heap[nb + 1]? = some (.cells rd 47 (0, 0))
section
variable {w wx wy : World} {nb : Nat} {rc rd : Array Value}
theorem DN.then (h : DN w wx nb rc rd) (k : Below wx.heap.size wx wy) : DN w wy nb rc rd :=
  ⟨h.be.trans (k.mono (by have := h.lt; omega)), Nat.le_trans h.lt k.size, blk_below h.x0 k, blk_below h.x1 k⟩
theorem DN.start : DN w ((w.alloc (.cells rc 47)).alloc (.cells rd 47)) w.heap.size rc rd := by
  refine ⟨(((Below.refl _ _).alloc (Nat.le_refl _) _).alloc (by simp) _), by simp, ?_, ?_⟩
  · exact blk_alloc (alloc_at rfl) _
  · exact alloc_at (by simp)
end
theorem node_cells {wx : World} {nb : Nat} {kd ins outs pa pb pc bd : Int} {A : Option Addr} {n c : Nat} {cv : Value} {st : Bool} (h : wx.heap[nb]? = some (.cells (ndc kd ins outs A n c pa pb pc bd cv st) 47 (0, 0))) : wx.cell? ⟨nb, 0, none⟩ = some (.int .i64 kd) ∧ wx.cell? ⟨nb, 1, none⟩ = some (.int .i64 ins) ∧ wx.cell? ⟨nb, 2, none⟩ = some (.int .i64 outs) ∧ wx.cell? ⟨nb, 3, none⟩ = some (.slice A n c) ∧
    wx.cell? ⟨nb, 4, none⟩ = some (.int .u64 pa) ∧ wx.cell? ⟨nb, 5, none⟩ = some (.int .u64 pb) ∧ wx.cell? ⟨nb, 6, none⟩ = some (.int .u64 pc) ∧ wx.cell? ⟨nb, 7, none⟩ = some (.int .u64 bd) ∧ wx.cell? ⟨nb, 8, none⟩ = some cv ∧ wx.cell? ⟨nb, 9, none⟩ = some (.bool st) :=
  ⟨blk_cell h 0, blk_cell h 1, blk_cell h 2, blk_cell h 3, blk_cell h 4, blk_cell h 5, blk_cell h 6, blk_cell h 7, blk_cell h 8, blk_cell h 9⟩
theorem DN.set {w wx : World} {nb no i : Nat} {rc rd : Array Value} {v : Value} (h : DN w wx nb rc rd) (hn : nb + 2 ≤ no) : DN w (wx.setCell ⟨no, i, none⟩ v) nb rc rd :=
  ⟨h.be.setCell (by simp only; omega) v, by have := h.lt; simpa [World.setCell] using this, blk_far h.x0 (by simp only; omega) v, blk_far h.x1 (by simp only; omega) v⟩
theorem own_cap {w : World} {base e size n c : Nat} {a : Option Addr} {xs : List Value} (h : w.ownsRow base e size (.slice a n c) n xs) : n ≤ c := by
  rcases h.2 with ⟨hv, h0⟩ | ⟨g, cap, cur, hv, _, _, hc, _⟩
  · injection hv; omega
  · injection hv with _ _ h2; omega
theorem flatS_set (l : List S29) (i : Nat) (hi : i < l.length) (x : S29) : ((flatS l).set (i * 2) (.int .i64 x.f0)).set (i * 2 + 1) (.int .u64 x.f1) = flatS (l.set i x) := by
  induction l generalizing i with
  | nil => simp at hi
  | cons a l ih =>
    have e : ∀ y m, flatS (y :: m) = .int .i64 y.f0 :: .int .u64 y.f1 :: flatS m := fun y m => rfl
    cases i with
    | zero => simp [e]
    | succ i =>
      have h1 : (i + 1) * 2 = i * 2 + 2 := by omega
      have h2 : (i + 1) * 2 + 1 = i * 2 + 1 + 2 := by omega
      rw [h2, h1, List.set_cons_succ, e, e]
      have := ih i (by simpa using hi)
      rw [← this]
      rfl
def x777 : S29 := ⟨777, 0⟩
def xm9 : S29 := ⟨-9, 0⟩
/-- The own row reads as the list. -/
theorem own_row {w : World} {B g m c : Nat} {l t : List S29} (h : w.ownsRow B 29 2 (.slice (some ⟨g, 0, none⟩) m c) m (flatS (l ++ t))) (hm : l.length ≤ m) : Row w (some ⟨g, 0, none⟩) l := by
  have hm2 : m = (l ++ t).length := by have := h.1; rw [flatS_length] at this; omega
  subst hm2
  obtain ⟨h1, h2⟩ := Row.of_own (l := l ++ t) h
  refine ⟨by have := h1.1; simp at this; omega, flatS_length _, fun hn => ?_⟩
  obtain ⟨ad, e, hb, hc⟩ := h1.2.2 (by simp; omega)
  refine ⟨ad, e, hb, fun j u hu => hc j u ?_⟩
  rw [flatS_append, List.getElem?_append_left (by have := (List.getElem?_eq_some_iff.1 hu).1; omega)]
  exact hu
end Go.Proofs.Ytfbejjobejdenaa.PCodeSays
