import Derived.Test.YthkkfkiiopfkjaaCQuo
import Derived.Test.YthkkfkiiopfkjaaCHold2
import Derived.Test.YthkkfkiiopfkjaaShelf
import Derived.Lib.SlBytesConst
set_option linter.unusedVariables false
set_option linter.unusedSimpArgs false
namespace Go.Proofs.Ythkkfkiiopfkjaa.L4
open Go.RowKit Go.Proofs.YthkkfkiiopfkjaaW.PrintWords

/-- MaxLen holds a number -/
def Mx (w : World) : Prop := ∃ m, w.cell? ⟨0, 0, none⟩ = some (.int .i64 m)
theorem Mx.below {w w1 : World} (h : Mx w) (hb : Below w.heap.size w w1) : Mx w1 :=
  let ⟨m, hm⟩ := h
  ⟨m, pw_cell_below hb hm⟩
theorem below_dn (w : World) (q : Nat) : Below w.heap.size w (w.drewN q) := ⟨rfl, rfl, rfl, Nat.le_refl _, fun _ _ => rfl⟩

theorem run_load_state {P : Program} {o : Oper} {a : Act} {w : World} {ty t : TypeId} {x : Operand} {g : Nat} {cs : Array Value} {fr : Nat × Nat} {d : TypeDesc} (ho : o.op = .load ty x) (hx : a.eval x = .pointer (some ⟨g, 0, none⟩)) (hg : w.heap[g]? = some (.cells cs t fr))
    (hu : P.underlying ty = some d) (hd : (match d with | .struct _ | .array _ _ => true | _ => false) = true) (hi : (P.info? ty).map (·.size) = some cs.size) : (execOp a.eval o).run P w = .ok (.value (.agg cs)) w := by
  unfold execOp
  simp only [ho, hx, Instr.loadAt, Instr.sureAddr, Sem.run_bind, Sem.run_pure, Result.andThen_ok, run_loadVar_row w g t ty cs fr d hg hu hd hi]

theorem and_says (G : Nat) (w : World) (v : Value) (h : AndC w v (fun w v => NumC w v (fnV 32) 2 (sgs.getD 5 ⟨#[]⟩)) (fun w v => NotC w v (fun w v => TxtC G 60 w v (fnV 36) (strOfNums [97]))))
    {B1 B2 : Nat} {x : Int} {hv : Value} {bs c : Nat} (hS : StC w B2 x (.slice (some ⟨bs, 0, none⟩) 1 c) hv) (hc : 1 ≤ c) (ha : w.cell? ⟨bs, 0, none⟩ = some (.int .u8 98)) (hMx : Mx w) : Hv w v B1 B2 (decide (2 < x)) := by
  have := and_Hv (r1 := decide (2 < x)) (r2 := true) (B1 := B1) (B2 := B2) h (fun y hy => num_Hv (by decide) hy hS) (fun y hy _ => by
    refine not_Hv (r := false) hy (fun z hz => ?_)
    refine has_Hv (A := some ⟨bs, 0, none⟩) (n := 1) (c := c) hz Try.func36 (by kernel_rfl) (by kernel_rfl) (fun w1 hb => pat_get (hS.below hb)) ?_
    intro w1 b3 c2 hb h1 h2
    obtain ⟨m, hm⟩ := hMx.below hb
    have hA := pw_cell_below hb ha
    refine (Try.bytes_Contains_at ⟨bs, 0, none⟩ ⟨b3, 0, none⟩ 1 c 1 c2 [98] [97] m w1 rfl rfl (by decide) (by decide) ?_ ?_ hc (by decide) (by decide) hm).mono ?_
    · intro i hi
      obtain rfl : i = 0 := by omega
      exact hA
    · intro i hi
      obtain rfl : i = 0 := by omega
      exact h2.2 0 (by decide)
    · rintro e w' ⟨rfl, q, rfl⟩
      exact ⟨by rw [show Lib.contains (Lib.bytesOf [98]) (Lib.bytesOf [97]) = false by decide +kernel], below_dn _ _⟩) (fun y hy => by obtain ⟨b, z, rfl, _⟩ := hy; exact ⟨_, _, rfl⟩)
  rw [Bool.and_true] at this
  exact this
theorem and_denies (G : Nat) (w : World) (v : Value) (h : AndC w v (fun w v => NumC w v (fnV 32) 2 (sgs.getD 5 ⟨#[]⟩)) (fun w v => NotC w v (fun w v => TxtC G 60 w v (fnV 36) (strOfNums [97]))))
    {B1 B2 : Nat} {pv hv : Value} (hS : StC w B2 0 pv hv) : Hv w v B1 B2 false :=
  and_Hv (r1 := false) (r2 := true) (B1 := B1) (B2 := B2) h (fun y hy => num_Hv (m := 5) (n := 2) (by decide) hy hS) (fun y hy h => by cases h) (fun y hy => by obtain ⟨b, z, rfl, _⟩ := hy; exact ⟨_, _, rfl⟩)
/-- a state's cells, but for its line, its pattern, what it holds -/
def stCs (pv hv : Value) (x : Int) : Array Value := #[pv, hv, .bool false, .int .i64 x, .bool false, .int .i64 0, .int .i64 0, .int .i64 0, .int .i64 0, .int .i64 0, .slice none 0 0, .slice none 0 0, .bool false, .slice none 0 0, .bool false, .int .i64 0, .int .i64 0, .int .i64 0, .int .i64 0, .int .i64 0, .bool false, .bool false, .bool false, .slice none 0 0, .slice none 0 0, .slice none 0 0, .slice none 0 0]
theorem StC.of {w : World} {B : Nat} {pv hv : Value} {x : Int} (h : w.heap[B]? = some (.cells (stCs pv hv x) 36 (0, 0))) : StC w B x pv hv := ⟨blk_cell h 0, blk_cell h 1, blk_cell h 3⟩

set_option maxRecDepth 100000 in
set_option maxHeartbeats 8000000 in
theorem awake_any (w : World) (hMx : Mx w) : Calls Try.prog 4 #[] w fun e w' => e = .returned (.bool true) ∧ Below w.heap.size w w' := by
  have hp := parse_awake
  unfold ParseTo at hp
  go_enter Try.func4, Try.ntmps4
  go_wp2_with (go_at_call 6; refine (hp _).mono ?_; rintro e w1 ⟨G, b, K, caps, rfl, hb1, hR1, hB1⟩)
  have kc := Lib.run_convert_bytes_const (P := Try.prog) (w1.alloc (.cells #[.slice none 0 0, .slice none 0 0, .bool false, .int .i64 3, .bool false, .int .i64 0, .int .i64 0, .int .i64 0, .int .i64 0, .int .i64 0, .slice none 0 0, .slice none 0 0, .bool false, .slice none 0 0, .bool false, .int .i64 0, .int .i64 0, .int .i64 0, .int .i64 0, .int .i64 0, .bool false, .bool false, .bool false, .slice none 0 0, .slice none 0 0, .slice none 0 0, .slice none 0 0] 36)) 23 5 #[.int .u8 98] 1 1 Try.underlying23 Try.underlying5
  simp only [World.size_alloc] at kc
  rw [kc]
  have hbs0 := heap_alloc_new w1 (.cells #[.slice none 0 0, .slice none 0 0, .bool false, .int .i64 3, .bool false, .int .i64 0, .int .i64 0, .int .i64 0, .int .i64 0, .int .i64 0, .slice none 0 0, .slice none 0 0, .bool false, .slice none 0 0, .bool false, .int .i64 0, .int .i64 0, .int .i64 0, .int .i64 0, .int .i64 0, .bool false, .bool false, .bool false, .slice none 0 0, .slice none 0 0, .slice none 0 0, .slice none 0 0] 36)
  have hbs := blk_alloc hbs0 (.cells #[.int .u8 98] 5 (1, 2))
  have hbx := heap_alloc_new (w1.alloc (.cells #[.slice none 0 0, .slice none 0 0, .bool false, .int .i64 3, .bool false, .int .i64 0, .int .i64 0, .int .i64 0, .int .i64 0, .int .i64 0, .slice none 0 0, .slice none 0 0, .bool false, .slice none 0 0, .bool false, .int .i64 0, .int .i64 0, .int .i64 0, .int .i64 0, .int .i64 0, .bool false, .bool false, .bool false, .slice none 0 0, .slice none 0 0, .slice none 0 0, .slice none 0 0] 36)) (.cells #[.int .u8 98] 5 (1, 2))
  simp only [World.size_alloc] at hbx
  have hBW := below_alloc (below_alloc (Below.refl w1.heap.size w1) (.cells #[.slice none 0 0, .slice none 0 0, .bool false, .int .i64 3, .bool false, .int .i64 0, .int .i64 0, .int .i64 0, .int .i64 0, .int .i64 0, .slice none 0 0, .slice none 0 0, .bool false, .slice none 0 0, .bool false, .int .i64 0, .int .i64 0, .int .i64 0, .int .i64 0, .int .i64 0, .bool false, .bool false, .bool false, .slice none 0 0, .slice none 0 0, .slice none 0 0, .slice none 0 0] 36)) (.cells #[.int .u8 98] 5 (1, 2))
  have hlt : b < w1.heap.size := blk_lt hb1
  clear kc hbs0 hp
  change Oper.upon _ _ _ _ _ ((Result.ok _ ((w1.alloc (.cells #[.slice none 0 0, .slice none 0 0, .bool false, .int .i64 3, .bool false, .int .i64 0, .int .i64 0, .int .i64 0, .int .i64 0, .int .i64 0, .slice none 0 0, .slice none 0 0, .bool false, .slice none 0 0, .bool false, .int .i64 0, .int .i64 0, .int .i64 0, .int .i64 0, .int .i64 0, .bool false, .bool false, .bool false, .slice none 0 0, .slice none 0 0, .slice none 0 0, .slice none 0 0] 36)).alloc (.cells #[.int .u8 98] 5 (1, 2)))).andThen _)
  generalize (w1.alloc (.cells #[.slice none 0 0, .slice none 0 0, .bool false, .int .i64 3, .bool false, .int .i64 0, .int .i64 0, .int .i64 0, .int .i64 0, .int .i64 0, .slice none 0 0, .slice none 0 0, .bool false, .slice none 0 0, .bool false, .int .i64 0, .int .i64 0, .int .i64 0, .int .i64 0, .int .i64 0, .bool false, .bool false, .bool false, .slice none 0 0, .slice none 0 0, .slice none 0 0, .slice none 0 0] 36)).alloc (.cells #[.int .u8 98] 5 (1, 2)) = W at *
  generalize hBs : w1.heap.size = Bs at *
  have f0 := blk_frozen hbs 0
  have hbf : (W.setCell ⟨Bs, 0, none⟩ (.slice (some ⟨Bs + 1, 0, none⟩) 1 1)).heap[Bs]? = some (.cells (stCs (.slice (some ⟨Bs + 1, 0, none⟩) 1 1) (.slice none 0 0) 3) 36 (0, 0)) := blk_put hbs 0 _ rfl
  have d0 : W.cell? ⟨Bs, 0, none⟩ = some (.slice none 0 0) := blk_cell hbs 0
  have HBS := Aside0.mk hbs
  have HBF := Aside0.mk hbf
  have HBX := Aside0.mk hbx
  have HR1 := Aside0.mk hR1
  have HB1 := Aside0.mk hb1
  have HZ := Lib.hid (show (Try.prog.info? 36).map (·.size) = some (stCs (.slice (some ⟨Bs + 1, 0, none⟩) 1 1) (.slice none 0 0) 3).size by kernel_rfl)
  clear hbs hbf hbx hR1 hb1
  go_wp2_with ((with_reducible refine gate_dst (N := 25) rfl ?_); refine gate_guard (by rfl) ?_; refine wpList_load_row rfl 36 (.tmp 4) rfl Bs rfl 36 _ (0, 0) _ HBF.out Try.underlying36 rfl HZ.out ?_)
  generalize hWf : W.setCell ⟨Bs, 0, none⟩ (.slice (some ⟨Bs + 1, 0, none⟩) 1 1) = Wf at *
  have hBf : Below w1.heap.size w1 Wf := by
    rw [hBs, ← hWf]
    exact ⟨hBW.os, hBW.tape, hBW.output, by rw [show (W.setCell ⟨Bs, 0, none⟩ (.slice (some ⟨Bs + 1, 0, none⟩) 1 1)).heap.size = W.heap.size by simp [World.setCell]]; exact hBW.size, fun i hi => (Below.heap_setCell W ⟨Bs, 0, none⟩ _ i (by show i ≠ Bs; omega)).trans (hBW.block i hi)⟩
  have ha : Wf.cell? ⟨Bs + 1, 0, none⟩ = some (.int .u8 98) := by
    rw [← hWf, World.cell?_of_block (Below.heap_setCell W ⟨Bs, 0, none⟩ _ (Bs + 1) (by show Bs + 1 ≠ Bs; omega))]
    unfold World.cell?
    rw [HBX.out]
    rfl
  have hMf : Mx Wf := (hMx.below hB1).below hBf
  have hRf := AndC.map HR1.out (w1 := Wf) (fun _ _ _ _ h => h.below hBf) (fun _ h => NumC.below h hBf) (fun _ h => NotC.map h (fun _ _ _ _ h => h.below hBf) (fun _ h => TxtC.below h hBf))
  have hbf2 := blk_below HB1.out hBf
  have hBff := hB1.trans (hBf.mono hB1.size)
  have HAL := Aside0.mk ha
  clear HR1 HB1 hBf hB1 hBW ha d0 f0 hMx HBS HBX hWf hlt hBs
  refine (holds_Hv (r := true) hbf2 (stCs (.slice none 0 0) (.slice none 0 0) 0) (stCs (.slice (some ⟨Bs + 1, 0, none⟩) 1 1) (.slice none 0 0) 3) ?_).mono ?_
  · intro w2 h2 _ e2
    have := and_says G w2 _ (AndC.map hRf (w1 := w2) (fun _ _ _ _ h => h.below h2) (fun _ h => NumC.below h h2) (fun _ h => NotC.map h (fun _ _ _ _ h => h.below h2) (fun _ h => TxtC.below h h2))) (B1 := Wf.heap.size) (StC.of e2) (Nat.le_refl _) (pw_cell_below h2 HAL.out) (hMf.below h2)
    simpa using this
  rintro e w3 ⟨rfl, hb3⟩
  have HBF3 := Aside0.mk (blk_below HBF.out hb3)
  have hbf3 := blk_below hbf2 hb3
  have hRf3 := AndC.map hRf (w1 := w3) (fun _ _ _ _ h => h.below hb3) (fun _ h => NumC.below h hb3) (fun _ h => NotC.map h (fun _ _ _ _ h => h.below hb3) (fun _ h => TxtC.below h hb3))
  clear HBF hbf2 hRf
  go_wp2_with ((with_reducible refine gate_dst (N := 30) rfl ?_); refine gate_guard (by rfl) ?_; refine wpList_load_row rfl 36 (.tmp 4) rfl Bs rfl 36 _ (0, 0) _ HBF3.out Try.underlying36 rfl HZ.out ?_)
  refine (holds_Hv (r := false) hbf3 (stCs (.slice (some ⟨Bs + 1, 0, none⟩) 1 1) (.slice none 0 0) 3) (stCs (.slice none 0 0) (.slice none 0 0) 0) ?_).mono ?_
  · intro w2 h2 _ e2
    exact and_denies G w2 _ (AndC.map hRf3 (w1 := w2) (fun _ _ _ _ h => h.below h2) (fun _ h => NumC.below h h2) (fun _ h => NotC.map h (fun _ _ _ _ h => h.below h2) (fun _ h => TxtC.below h h2))) (StC.of e2)
  rintro e w4 ⟨rfl, hb4⟩
  go_wp2_with fail
  go_ret
  exact ⟨rfl, (hBff.trans (hb3.mono hBff.size)).trans (hb4.mono (Nat.le_trans hBff.size hb3.size))⟩
end Go.Proofs.Ythkkfkiiopfkjaa.L4
