import Derived.OrdersHeld
import Derived.WalkKit
import Derived.Test.YthkkfkiiopfkjaaWLast
namespace Go.Proofs.Ythkkfkiiopfkjaa.L4
open Go.RowKit Go.Proofs.YthkkfkiiopfkjaaW.PrintLast
section
variable {P : Program} {ops : Array Oper} {Q : Exit → Act → World → Prop} {md : Region.Mode}

/-- AN INVARIANT OF A REGION THAT DRAWS ITS ORDER: J speaks of what has come up (listed), of the frame and the world; whatever may come up keeps it; at any time one may go on by hand. -/
theorem wpAny_inv {J : Nat → Array Bool → Act → World → Prop}
    (step : ∀ fuel l a w, J (fuel + 1) l a w → wpAny P md ops Q (fuel + 1) l a w ∨ ((Region.ready md ops l = [] → Q .normal a w) ∧ ∀ i ∈ Region.ready md ops l, wpOp P ops Q i (J fuel (l.setIfInBounds i true)) a w))
    (zero : ∀ l a w, J 0 l a w → wpAny P md ops Q 0 l a w) : ∀ fuel l a w, J fuel l a w → wpAny P md ops Q fuel l a w := by
  intro fuel
  induction fuel with
  | zero => exact zero
  | succ fuel ih =>
    intro l a w h
    rcases step fuel l a w h with h | ⟨h1, h2⟩
    · exact h
    · exact ⟨h1, fun i hi => wpOp_mono (fun a' w' h' => ih _ a' w' h') (h2 i hi)⟩

/-- The same where one condition S is held throughout. -/
theorem wpAnyH_inv {S : World → Prop} {J : Nat → Array Bool → Act → World → Prop}
    (step : ∀ fuel l a w, J (fuel + 1) l a w → wpAnyH P md ops Q S (fuel + 1) l a w ∨ ((Region.ready md ops l = [] → Q .normal a w) ∧ ∀ i ∈ Region.ready md ops l, wpOp P ops Q i (fun a' w' => S w' ∧ J fuel (l.setIfInBounds i true) a' w') a w))
    (zero : ∀ l a w, J 0 l a w → wpAnyH P md ops Q S 0 l a w) : ∀ fuel l a w, J fuel l a w → wpAnyH P md ops Q S fuel l a w := by
  intro fuel
  induction fuel with
  | zero => exact zero
  | succ fuel ih =>
    intro l a w h
    rcases step fuel l a w h with h | ⟨h1, h2⟩
    · exact h
    · exact ⟨h1, fun i hi => wpOp_mono (fun a' w' h' => ⟨h'.1, ih _ a' w' h'.2⟩) (h2 i hi)⟩

/-- Take number i first (its slot is named). -/
theorem take_ {S : World → Prop} {i : Nat} {N : Option Tmp} {oi : Oper} {v : Value} {fuel : Nat} {listed : Array Bool} {a : Act} {w : World} (hi : ops[i]? = some oi) (hN : oi.dst = N)
    (hs : Region.noSelect ops = true) (hf : Region.free md ops listed i = true) (hr : (Region.ready md ops listed).contains i = true)
    (hQ : ∀ c a w, Q (.panic c) (a.put N v) w → Q (.panic c) a w) (hy : YieldsIf P ops S oi v a) (hS : S w)
    (h : wpAnyH P md ops Q S fuel (listed.setIfInBounds i true) (a.put N v) w) : wpAnyH P md ops Q S (fuel + 1) listed a w := by
  subst hN
  exact wpAnyH_take hi hs hf hr hQ hy hS h

/-- An operation that yields a value. -/
theorem wpOp_ok {i : Nat} {o : Oper} {K : Act → World → Prop} {a : Act} {w w1 : World} {v : Value} (ho : ops[i]? = some o) (hg : o.guard = none) (hrun : (execOp a.eval o).run P w = .ok (.value v) w1) (h : K (a.put o.dst v) w1) : wpOp P ops Q i K a w := by
  unfold wpOp
  simp only [ho]
  rw [if_pos (by simp [Region.wanted, hg])]
  refine .inl ?_
  unfold Oper.wp
  rw [hrun]
  exact h
theorem wpOp_wp {i : Nat} {o : Oper} {K : Act → World → Prop} {a : Act} {w : World} (ho : ops[i]? = some o) (hg : o.guard = none) (h : Oper.wp P o a w K Q) : wpOp P ops Q i K a w := by
  unfold wpOp
  simp only [ho]
  rw [if_pos (by simp [Region.wanted, hg])]
  exact .inl h
/-- One that yields nothing. -/
theorem wpOp_skip {i : Nat} {o : Oper} {K : Act → World → Prop} {a : Act} {w w1 : World} (ho : ops[i]? = some o) (hg : o.guard = none) (hrun : (execOp a.eval o).run P w = .ok .skip w1) (h : K (a.put o.dst undef) w1) : wpOp P ops Q i K a w := by
  unfold wpOp
  simp only [ho]
  rw [if_pos (by simp [Region.wanted, hg])]
  refine .inl ?_
  unfold Oper.wp
  rw [hrun]
  exact h
/-- A call. -/
theorem wpOp_call {i : Nat} {o : Oper} {K : Act → World → Prop} {a : Act} {w w1 : World} {f : FuncId} {args : Array Value} (ho : ops[i]? = some o) (hg : o.guard = none) (hrun : (execOp a.eval o).run P w = .ok (.enter f args) w1)
    (h : Calls P f args w1 fun e w' => ∃ v, e = .returned v ∧ K (a.put o.dst v) w') : wpOp P ops Q i K a w := by
  unfold wpOp
  simp only [ho]
  rw [if_pos (by simp [Region.wanted, hg])]
  refine .inl ?_
  unfold Oper.wp
  rw [hrun]
  refine h.mono ?_
  rintro e w' ⟨v, rfl, hk⟩
  exact hk
/-- One step by hand, where just one may come up. -/
theorem wpAny_one {i fuel : Nat} {l : Array Bool} {a : Act} {w : World} (hr : Region.ready md ops l = [i]) (h : wpOp P ops Q i (wpAny P md ops Q fuel (l.setIfInBounds i true)) a w) : wpAny P md ops Q (fuel + 1) l a w := by
  refine ⟨fun h0 => (by rw [hr] at h0; cases h0), fun j hj => ?_⟩
  rw [hr] at hj
  obtain rfl : j = i := by simpa using hj
  exact h

theorem wpAnyH_one {S : World → Prop} {i fuel : Nat} {l : Array Bool} {a : Act} {w : World} (hr : Region.ready md ops l = [i]) (h : wpOp P ops Q i (fun a' w' => S w' ∧ wpAnyH P md ops Q S fuel (l.setIfInBounds i true) a' w') a w) : wpAnyH P md ops Q S (fuel + 1) l a w := by
  refine ⟨fun h0 => (by rw [hr] at h0; cases h0), fun j hj => ?_⟩
  rw [hr] at hj
  obtain rfl : j = i := by simpa using hj
  exact h

theorem run_add_str {o : Oper} {a : Act} {w : World} {t : TypeId} {x y : Operand} {A B : ByteArray} (hop : o.op = .binOp .add t x y t) (hx : a.eval x = .string A) (hy : a.eval y = .string B) (h : A.size + B.size ≤ 9223372036854775807) :
    (execOp a.eval o).run P w = .ok (.value (.string (A ++ B))) w := by
  have h' : ¬ (9223372036854775807 : Int) < (A.size : Int) + (B.size : Int) := by omega
  simp [execOp, hop, hx, hy, eqGuard, binOp_string_add, Op.stringOp, h', Result.andThen]

/-- what one operation is: slot, kind, guard -/
structure At (ops : Array Oper) (i : Nat) (d : Option Tmp) (op : Op) (o : Oper) : Prop where
  here : ops[i]? = some o
  dst : o.dst = d
  op : o.op = op
  guard : o.guard = none
theorem at_of {i : Nat} {d : Option Tmp} {op : Op} (h : (ops[i]?).map (fun o => (o.dst, o.op, o.guard)) = some (d, op, none)) : ∃ o, At ops i d op o := by
  obtain ⟨o, h1, h2⟩ := Option.map_eq_some_iff.1 h
  exact ⟨o, h1, (Prod.mk.inj h2).1, (Prod.mk.inj (Prod.mk.inj h2).2).1, (Prod.mk.inj (Prod.mk.inj h2).2).2⟩
/-- does i wait for j? -/
def waitsFor (md : Region.Mode) (ops : Array Oper) (i j : Nat) : Bool := ((ops[i]?).map fun o => o.after.any fun e => Region.binds md e && e.on == j).getD false
theorem deps_of {l : Array Bool} {i j : Nat} (hi : i ∈ Region.ready md ops l) (h : waitsFor md ops i j = true) : l.getD j false = true := by
  obtain ⟨_, o, ho, hall⟩ := mem_ready.1 hi
  unfold waitsFor at h
  rw [ho] at h
  simp only [Option.map_some, Option.getD_some, Array.any_eq_true'] at h
  obtain ⟨e, he, h2⟩ := h
  simp only [Bool.and_eq_true, beq_iff_eq] at h2
  have := hall e he h2.1
  rwa [h2.2] at this
/-- i waits for none but those -/
def waitsIn (md : Region.Mode) (ops : Array Oper) (i : Nat) (D : List Nat) : Bool := ((ops[i]?).map fun o => o.after.all fun e => !Region.binds md e || D.contains e.on).getD false
theorem ready_of {l : Array Bool} {i : Nat} (D : List Nat) (h0 : l.getD i true = false) (h : waitsIn md ops i D = true) (hD : ∀ j ∈ D, l.getD j false = true) : i ∈ Region.ready md ops l := by
  unfold waitsIn at h
  cases ho : ops[i]? with
  | none => rw [ho] at h; simp at h
  | some o =>
    rw [ho] at h
    simp only [Option.map_some, Option.getD_some, Array.all_eq_true_iff_forall_mem, Bool.or_eq_true, Bool.not_eq_true'] at h
    refine mem_ready.2 ⟨h0, o, ho, fun e he hb => ?_⟩
    rcases h e he with h1 | h1
    · rw [hb] at h1; cases h1
    · exact hD _ (by simpa using h1)
theorem ready_lt {l : Array Bool} {i : Nat} (hi : i ∈ Region.ready md ops l) : i < ops.size ∧ l.getD i true = false := by
  obtain ⟨h0, o, ho, _⟩ := mem_ready.1 hi
  exact ⟨(Array.getElem?_eq_some_iff.1 ho).1, h0⟩

theorem op_insert {i : Nat} {o : Oper} {K : Act → World → Prop} {a : Act} {w w1 : World} {t : TypeId} {m k x : Operand} (h : At ops i none (.insert t m k x) o) (hrun : (Instr.mapUpdate t (a.eval m) (a.eval k) (a.eval x)).run P w = .ok () w1) (hK : K a w1) : wpOp P ops Q i K a w := by
  refine wpOp_skip (w1 := w1) h.here h.guard ?_ ?_
  · simp [execOp, h.op, hrun, Result.andThen]
  · rw [h.dst]; exact hK
theorem op_makeMap {i : Nat} {o : Oper} {K : Act → World → Prop} {a : Act} {w : World} {N : Option Tmp} {t : TypeId} (h : At ops i N (.makeMap t none) o) (hK : K (a.put N (.map (some w.heap.size))) (w.alloc (.map #[] 0))) : wpOp P ops Q i K a w := by
  refine wpOp_ok (w1 := w.alloc (.map #[] 0)) (v := .map (some w.heap.size)) h.here h.guard ?_ ?_
  · simp [execOp, h.op, Instr.makeMap]
  · rw [h.dst]; exact hK
theorem op_call {i : Nat} {o : Oper} {K : Act → World → Prop} {a : Act} {w : World} {N : Option Tmp} {f : Operand} {args0 : Array Operand} {ts : Array TypeId} {fn : FuncId} {caps args : Array Value} {g : Func} (h : At ops i N (.call { callee := .value f, args := args0, argTypes := ts }) o)
    (hf : a.eval f = .func (.func fn) #[] caps) (hargs : args0.toList.map a.eval ++ caps.toList = args.toList) (hg : P.funcs[fn]? = some g) (hn : (g.name == "runtime.NumGoroutine") = false) (hb : g.body.isSome = true)
    (hc : Calls P fn args w fun e w' => ∃ v, e = .returned v ∧ K (a.put N v) w') : wpOp P ops Q i K a w := by
  have ha : args0.map a.eval ++ caps = args := by apply Array.toList_inj.1; simpa using hargs
  subst ha
  refine wpOp_call (f := fn) (args := args0.map a.eval ++ caps) (w1 := w) h.here h.guard ?_ ?_
  · have he := enters_ hg hn hb (args0.map a.eval ++ caps) w
    simp [execOp, h.op, resolve, hf, Deferred.ofValue, invoke, he]
  · rw [h.dst]; exact hc
end
end Go.Proofs.Ythkkfkiiopfkjaa.L4
