import Derived.Test.YthkkfkiiopfkjaaCParse
import Derived.Test.YthkkfkiiopfkjaaCNext3
import Derived.Test.YthkkfkiiopfkjaaCNext4
import Derived.Test.YthkkfkiiopfkjaaCNext2
set_option linter.unusedVariables false
set_option linter.unusedSimpArgs false
namespace Go.Proofs.Ythkkfkiiopfkjaa.L4
open Go.RowKit Go.Proofs.YthkkfkiiopfkjaaW.PrintWords Go.Proofs.YthkkfkiiopfkjaaW.PrintLast

/-- a state in block B: its line, its pattern, what it holds -/
structure StC (w : World) (B : Nat) (x : Int) (pv hv : Value) : Prop where
  c0 : w.cell? ⟨B, 0, none⟩ = some pv
  c1 : w.cell? ⟨B, 1, none⟩ = some hv
  c3 : w.cell? ⟨B, 3, none⟩ = some (.int .i64 x)
theorem StC.below {w w1 : World} {B : Nat} {x : Int} {pv hv : Value} (h : StC w B x pv hv) (hb : Below w.heap.size w w1) : StC w1 B x pv hv :=
  ⟨pw_cell_below hb h.c0, pw_cell_below hb h.c1, pw_cell_below hb h.c3⟩

/-- what a sign says of two numbers -/
def sgR (m : Nat) (x n : Int) : Bool := match m with | 0 => decide (x ≠ n) | 1 => decide (x ≤ n) | 2 => decide (n ≤ x) | 3 => decide (x = n) | 4 => decide (x < n) | _ => decide (n < x)

set_option maxRecDepth 100000 in
set_option maxHeartbeats 8000000 in
theorem num_holds {w : World} {v : Value} {n : Int} {m : Nat} (hm : m < 6) (h : NumC w v (fnV 32) n (sgs.getD m ⟨#[]⟩)) {B1 B2 : Nat} {x : Int} {pv hv : Value} (hS : StC w B2 x pv hv) :
    ∃ K caps, v = .func (Fn.func K) #[] caps ∧ Calls Try.prog K (#[ptr B1, ptr B2] ++ caps) w fun e w' => e = .returned (.bool (sgR m x n)) ∧ Below w.heap.size w w' := by
  obtain ⟨b1, b2, b3, rfl, h1, h2, h3⟩ := h
  refine ⟨_, _, rfl, ?_⟩
  have d1 := h1.at
  have d2 := h2.at
  have d3 := h3.at
  have s3 := hS.c3
  clear h1 h2 h3 hS
  show Calls Try.prog 57 #[ptr B1, ptr B2, ptr b1, ptr b2, ptr b3] w _
  have tri : (x < n ∧ (x == n) = false ∧ ¬ n < x) ∨ (x = n) ∨ (n < x ∧ (x == n) = false ∧ ¬ x < n) := by
    rcases Int.lt_trichotomy x n with h | h | h
    · exact .inl ⟨h, by simp; omega, by omega⟩
    · exact .inr (.inl h)
    · exact .inr (.inr ⟨h, by simp; omega, by omega⟩)
  obtain rfl | rfl | rfl | rfl | rfl | rfl : m = 0 ∨ m = 1 ∨ m = 2 ∨ m = 3 ∨ m = 4 ∨ m = 5 := by omega
  all_goals
    simp only [sgs, List.getD_cons_zero, List.getD_cons_succ] at d3
    rcases tri with ⟨t1, t2, t3⟩ | rfl | ⟨t1, t2, t3⟩
    all_goals
      go_enter Try.func57, Try.ntmps57
      go_wp2
      go_ret
      refine ⟨?_, Below.refl _ _⟩
      simp [sgR]
      try omega
end Go.Proofs.Ythkkfkiiopfkjaa.L4
