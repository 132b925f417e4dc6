import Derived.Test.YthkkfkiiopfkjaaOrders
namespace Go.Proofs.Ythkkfkiiopfkjaa.L4
open Go.RowKit
section
variable {P : Program} {md : Region.Mode} {ops : Array Oper} {Q : Exit → Act → World → Prop}
/-- a call, its slot given: the frame stays plain -/
theorem wpOp_callN {i : Nat} {o : Oper} {K : Act → World → Prop} {a : Act} {w w1 : World} {f : FuncId} {args : Array Value} {N : Option Tmp} (ho : ops[i]? = some o) (hN : o.dst = N) (hg : o.guard = none) (hrun : (execOp a.eval o).run P w = .ok (.enter f args) w1)
    (h : Calls P f args w1 fun e w' => ∃ v, e = .returned v ∧ K (a.put N v) w') : wpOp P ops Q i K a w := by
  subst hN; exact wpOp_call ho hg hrun h
theorem wpOp_okN {i : Nat} {o : Oper} {K : Act → World → Prop} {a : Act} {w w1 : World} {v : Value} {N : Option Tmp} (ho : ops[i]? = some o) (hN : o.dst = N) (hg : o.guard = none) (hrun : (execOp a.eval o).run P w = .ok (.value v) w1) (h : K (a.put N v) w1) : wpOp P ops Q i K a w := by
  subst hN; exact wpOp_ok ho hg hrun h
end
end Go.Proofs.Ythkkfkiiopfkjaa.L4
