import Derived.Test.YtfoijbcdbcehiaaDoorGreat
import Derived.Test.YtfoijbcdbcehiaaDoorRefShow5
import Derived.Test.YtfoijbcdbcehiaaDoorFile
import Derived.Test.YtfoijbcdbcehiaaDoorRefFile
import Derived.Test.YtfoijbcdbcehiaaDoorAwake
set_option linter.unusedVariables false
set_option linter.unusedSimpArgs false
namespace Go.Proofs.YtfoijbcdbcehiaaDoor.L4
open Go.RowKit Go.Proofs.YtfoijbcdbcehiaaDoorW.PrintWords

theorem run_load_state {P : Program} {o : Oper} {a : Act} {w : World} {ty t : TypeId} {x : Operand} {g : Nat} {cs : Array Value} {fr : Nat × Nat} {d : TypeDesc} (ho : o.op = .load ty x) (hx : a.eval x = .pointer (some ⟨g, 0, none⟩)) (hg : w.heap[g]? = some (.cells cs t fr))
    (hu : P.underlying ty = some d) (hd : (match d with | .struct _ | .array _ _ => true | _ => false) = true) (hi : (P.info? ty).map (·.size) = some cs.size) : (execOp a.eval o).run P w = .ok (.value (.agg cs)) w := by
  unfold execOp
  simp only [ho, hx, Instr.loadAt, Instr.sureAddr, Sem.run_bind, Sem.run_pure, Result.andThen_ok, run_loadVar_row w g t ty cs fr d hg hu hd hi]

set_option maxRecDepth 100000 in
set_option maxHeartbeats 4000000 in
/-- the way out at once: the state is great, or the word is long -/
theorem law_out (s : Sv) (n : Int) (what : ByteArray) (w : World) (hs : s.Ok w) (hl : Lim s) (ht : Tb w) (r : Bool) (hr : r = true ∨ 300 < what.size) (hw : what.size ≤ 140737488351232)
    (hg : Calls Tryd.prog 4 #[s.v] (w.alloc (.cells s.cells 34)) fun e w' => e = .returned (.bool r) ∧ Below (w.alloc (.cells s.cells 34)).heap.size (w.alloc (.cells s.cells 34)) w') :
    Calls Tryd.prog 3 #[s.v, .int .i64 n, .string what] w fun e w' => e = .returned (.bool true) ∧ Below w.heap.size w w' := by
  have HI := InB.new s w
  unfold InB at HI
  have kB := Aside0.mk ((Below.refl w.heap.size w).alloc (Nat.le_refl _) (.cells s.cells 34))
  have hz : (Tryd.prog.info? 34).map (·.size) = some s.cells.size := by kernel_rfl
  have HZ := Lib.hid hz
  clear hz
  unfold Sv.v at *
  generalize s.cells = cs at *
  have HH := Lib.hid HI
  clear HI
  rcases hr with rfl | hr
  · go_enter Tryd.func3, Tryd.ntmps3
    go_wp2_with (first
      | ((with_reducible refine gate_dst (N := 20) rfl ?_); refine wpList_load_row rfl 34 (.tmp 3) rfl w.heap.size rfl 34 cs (0, 0) _ HH.out Tryd.underlying34 rfl HZ.out ?_)
      | (go_at_call 4; refine hg.mono ?_; rintro e w2 ⟨rfl, hb⟩; have kb := kB.out.trans (hb.mono kB.out.size); clear hb)
      | (go_at_call 5; refine (awake_any _ (ht.below kb)).mono ?_; rintro e w3 ⟨rfl, hb⟩; have kb3 := kb.trans (hb.mono kb.size); clear hb))
    go_ret
    exact ⟨rfl, kb3⟩
  · cases r
    all_goals
      go_enter Tryd.func3, Tryd.ntmps3
      go_wp2_with (first
        | ((with_reducible refine gate_dst (N := 20) rfl ?_); refine wpList_load_row rfl 34 (.tmp 3) rfl w.heap.size rfl 34 cs (0, 0) _ HH.out Tryd.underlying34 rfl HZ.out ?_)
        | (go_at_call 4; refine hg.mono ?_; rintro e w2 ⟨rfl, hb⟩; have kb := kB.out.trans (hb.mono kB.out.size); clear hb)
        | (go_at_call 5; refine (awake_any _ (ht.below kb)).mono ?_; rintro e w3 ⟨rfl, hb⟩; have kb3 := kb.trans (hb.mono kb.size); clear hb))
      go_ret
      exact ⟨rfl, kb3⟩
end Go.Proofs.YtfoijbcdbcehiaaDoor.L4
