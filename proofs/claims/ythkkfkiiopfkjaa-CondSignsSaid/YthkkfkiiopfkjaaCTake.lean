import Derived.Test.YthkkfkiiopfkjaaCNext
import Derived.Lib.ConvBytes
set_option linter.unusedVariables false
set_option linter.unusedSimpArgs false
namespace Go.Proofs.Ythkkfkiiopfkjaa.L4
open Go.RowKit Go.Proofs.YthkkfkiiopfkjaaW.PrintWords

/-- what next comes to, whatever the piece was -/
def NextTo (G : Nat) (s : ByteArray) (i d i2 k2 p2 n2 : Int) (q2 : ByteArray) : Prop :=
  ∀ k p n q w, PS G s i k p n q d w → Calls Try.prog 11 #[.pointer (some ⟨G, 0, none⟩)] w fun e w' => e = .returned (.tuple #[]) ∧ PS G s i2 k2 p2 n2 q2 d w' ∧ Kp G w w'

set_option maxRecDepth 100000 in
set_option maxHeartbeats 1000000 in
theorem is_no (G : Nat) (s : ByteArray) (i k p n : Int) (q : ByteArray) (d : Int) (w : World) (h : PS G s i k p n q d w) (kk : Int) (t : ByteArray) (hno : (k != kk) = true ∨ ((k != kk) = false ∧ (q.toList == t.toList) = false)) :
    Calls Try.prog 21 #[.pointer (some ⟨G, 0, none⟩), .int .i64 kk, .string t] w fun e w' => e = .returned (.bool false) ∧ w' = w := by
  have c2 := h.c2
  have c5 := h.c5
  rcases hno with hno | ⟨hno, hno2⟩
  all_goals
    go_enter Try.func21, Try.ntmps21
    go_wp2_with fail
    go_ret
    exact ⟨rfl, rfl⟩

set_option maxRecDepth 100000 in
set_option maxHeartbeats 1000000 in
theorem is_yes (G : Nat) (s : ByteArray) (i k p n : Int) (q : ByteArray) (d : Int) (w : World) (h : PS G s i k p n q d w) {i2 k2 p2 n2 : Int} {q2 : ByteArray} (hn : NextTo G s i d i2 k2 p2 n2 q2) :
    Calls Try.prog 21 #[.pointer (some ⟨G, 0, none⟩), .int .i64 k, .string q] w fun e w' => e = .returned (.bool true) ∧ PS G s i2 k2 p2 n2 q2 d w' ∧ Kp G w w' := by
  have c2 := h.c2
  have c5 := h.c5
  go_enter Try.func21, Try.ntmps21
  go_wp2_with (go_at_call 11; refine (hn k p n q w h).mono ?_; rintro e w1 ⟨rfl, hP, hK⟩)
  go_ret
  exact ⟨rfl, hP, hK⟩

theorem Kp.alloc {G : Nat} {w w1 : World} (h : Kp G w w1) (o : Obj) : Kp G w (w1.alloc o) := h.trans (Kp.of_below (below_alloc (Below.refl _ _) o))
theorem Kp.blk {G b : Nat} {o : Obj} {w w1 : World} (h : Kp G w w1) (hb : w.heap[b]? = some o) (hne : b ≠ G) : w1.heap[b]? = some o := (h.out.block b (blk_lt hb) (fun e => hne (Option.some.inj e))).trans hb
theorem Kp.setNew {G : Nat} {w w1 : World} (h : Kp G w w1) {b : Nat} (hb : w.heap.size ≤ b) (j : Nat) (v : Value) : Kp G w (w1.setCell ⟨b, j, none⟩ v) :=
  ⟨⟨h.out.os, h.out.tape, h.out.output, by rw [show (w1.setCell ⟨b, j, none⟩ v).heap.size = w1.heap.size by simp [World.setCell]]; exact h.out.size, fun i hi hne => by
    have hg : i ≠ b := by omega
    exact (Below.heap_setCell w1 ⟨b, j, none⟩ v i hg).trans (h.out.block i hi hne)⟩⟩

set_option maxRecDepth 100000 in
set_option maxHeartbeats 2000000 in
theorem take_any (G : Nat) (s : ByteArray) (i k p n : Int) (q : ByteArray) (d : Int) (w : World) (h : PS G s i k p n q d w) {i2 k2 p2 n2 : Int} {q2 : ByteArray} (hn : NextTo G s i d i2 k2 p2 n2 q2) :
    Calls Try.prog 56 #[.pointer (some ⟨G, 0, none⟩), .int .i64 k] w fun e w' => e = .returned (.agg #[.int .i64 k, .int .i64 p, .int .i64 n, .string q]) ∧ PS G s i2 k2 p2 n2 q2 d w' ∧ Kp G w w' := by
  have c2 := h.c2
  have c3 := h.c3
  have c4 := h.c4
  have c5 := h.c5
  have hlt := h.lt
  go_enter Try.func56, Try.ntmps56
  go_wp2_with fail
  have hb0 := heap_alloc_new w (.cells #[.int .i64 0, .int .i64 0, .int .i64 0, .string ⟨#[]⟩] 50)
  have hK0 := (Kp.alloc (Kp.refl G w) (.cells #[.int .i64 0, .int .i64 0, .int .i64 0, .string ⟨#[]⟩] 50)).alloc (.cells #[.int .i64 k, .int .i64 p, .int .i64 n, .string q] 50)
  have hb1 := blk_alloc hb0 (.cells #[.int .i64 k, .int .i64 p, .int .i64 n, .string q] 50)
  have hb2 := heap_alloc_new (w.alloc (.cells #[.int .i64 0, .int .i64 0, .int .i64 0, .string ⟨#[]⟩] 50)) (.cells #[.int .i64 k, .int .i64 p, .int .i64 n, .string q] 50)
  have hP0 : PS G s i k p n q d ((w.alloc (.cells #[.int .i64 0, .int .i64 0, .int .i64 0, .string ⟨#[]⟩] 50)).alloc (.cells #[.int .i64 k, .int .i64 p, .int .i64 n, .string q] 50)) := ⟨blk_alloc (blk_alloc h.out _) _⟩
  rw [show (w.alloc (.cells #[.int .i64 0, .int .i64 0, .int .i64 0, .string ⟨#[]⟩] 50)).heap.size = w.heap.size + 1 by simp] at hb2
  clear c2 c3 c4 c5 h hb0
  generalize ((w.alloc (.cells #[.int .i64 0, .int .i64 0, .int .i64 0, .string ⟨#[]⟩] 50)).alloc (.cells #[.int .i64 k, .int .i64 p, .int .i64 n, .string q] 50)) = w1 at *
  refine (hn k p n q w1 hP0).mono ?_
  rintro e w2 ⟨rfl, hP, hK⟩
  have hb3 := hK.blk hb1 (by omega)
  have hb4 := hK.blk hb2 (by omega)
  have hK1 := hK0.trans hK
  have ge : w.heap.size ≤ w.heap.size := Nat.le_refl _
  have d0 := blk_cell hb3 0
  have d1 := blk_cell hb3 1
  have d2 := blk_cell hb3 2
  have d3 := blk_cell hb3 3
  have z0 := blk_frozen hb3 0
  have z1 := blk_frozen hb3 1
  have z2 := blk_frozen hb3 2
  have z3 := blk_frozen hb3 3
  have e0 := blk_cell hb4 0
  have e1 := blk_cell hb4 1
  have e2 := blk_cell hb4 2
  have e3 := blk_cell hb4 3
  have hKf := ((((hK1.setNew ge 0 (.int .i64 k)).setNew ge 1 (.int .i64 p)).setNew ge 2 (.int .i64 n)).setNew ge 3 (.string q))
  have far : ∀ {W : World} {j : Nat} {v : Value}, PS G s i2 k2 p2 n2 q2 d W → PS G s i2 k2 p2 n2 q2 d (W.setCell ⟨w.heap.size, j, none⟩ v) := fun hh => ⟨blk_far hh.out (by show G ≠ w.heap.size; omega) _⟩
  have hPf : PS G s i2 k2 p2 n2 q2 d ((((w2.setCell ⟨w.heap.size, 0, none⟩ (.int .i64 k)).setCell ⟨w.heap.size, 1, none⟩ (.int .i64 p)).setCell ⟨w.heap.size, 2, none⟩ (.int .i64 n)).setCell ⟨w.heap.size, 3, none⟩ (.string q)) := far (far (far (far hP)))
  have hbf0 : ((((w2.setCell ⟨w.heap.size, 0, none⟩ (.int .i64 k)).setCell ⟨w.heap.size, 1, none⟩ (.int .i64 p)).setCell ⟨w.heap.size, 2, none⟩ (.int .i64 n)).setCell ⟨w.heap.size, 3, none⟩ (.string q)).heap[w.heap.size]? = some (.cells #[.int .i64 k, .int .i64 p, .int .i64 n, .string q] 50 (0, 0)) :=
    blk_put (blk_put (blk_put (blk_put hb3 0 (.int .i64 k) rfl) 1 (.int .i64 p) rfl) 2 (.int .i64 n) rfl) 3 (.string q) rfl
  have hbf := Aside0.mk hbf0
  clear hbf0
  clear hb1 hb2 hb3 hb4 hP hK hP0 hK0
  simp only [List.getElem?_toArray, List.getElem?_cons_zero, List.getElem?_cons_succ] at d0 d1 d2 d3 e0 e1 e2 e3
  go_wp2_with fail
  clear d0 d1 d2 d3 z0 z1 z2 z3 e0 e1 e2 e3 hK1
  generalize ((((w2.setCell ⟨w.heap.size, 0, none⟩ (.int .i64 k)).setCell ⟨w.heap.size, 1, none⟩ (.int .i64 p)).setCell ⟨w.heap.size, 2, none⟩ (.int .i64 n)).setCell ⟨w.heap.size, 3, none⟩ (.string q)) = wf at *
  have g0 : wf.cell? ⟨w.heap.size, 0, none⟩ = some (.int .i64 k) := blk_cell hbf.out 0
  have g1 : wf.cell? ⟨w.heap.size, 1, none⟩ = some (.int .i64 p) := blk_cell hbf.out 1
  have g2 : wf.cell? ⟨w.heap.size, 2, none⟩ = some (.int .i64 n) := blk_cell hbf.out 2
  have g3 : wf.cell? ⟨w.heap.size, 3, none⟩ = some (.string q) := blk_cell hbf.out 3
  refine bodyPost_ret (v := .agg #[.int .i64 k, .int .i64 p, .int .i64 n, .string q]) (by simp [results, Try.results56, go_sem, g0, g1, g2, g3]) rfl ?_
  exact ⟨rfl, hPf, hKf⟩
end Go.Proofs.Ythkkfkiiopfkjaa.L4
