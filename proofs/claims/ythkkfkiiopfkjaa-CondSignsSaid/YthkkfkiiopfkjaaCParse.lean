import Derived.Test.YthkkfkiiopfkjaaCBoth
import Derived.Defers
import Derived.Recover
import Derived.Laws.Pointers
set_option linter.unusedVariables false
set_option linter.unusedSimpArgs false
namespace Go.Proofs.Ythkkfkiiopfkjaa.L4
open Go.RowKit Go.Proofs.YthkkfkiiopfkjaaW.PrintWords

set_option maxRecDepth 100000 in
set_option maxHeartbeats 1000000 in
/-- the deferred closure, where nothing has been given up -/
theorem catch_idle (x y z : Value) (w : World) :
    CallsD Try.prog 10 #[x, y, z] .returning w fun e u' w' => e = .returned (.tuple #[]) ∧ u' = .returning ∧ w' = w := by
  refine callsD_of_wpS Try.func10 rfl fun c₀ cs hu => ?_
  apply wpS_seq
  apply wpS_region
  simp [wpOpsS, go_sem, recoverD, hu, Try.ntmps10, Exit.thenS]
  apply wpS_seq
  apply wpS_region
  simp [wpOpsS, go_sem, recoverD, hu, Exit.thenS]
  refine wpS_cond (t := false) (by simp [Act.eval, Array.replicate]) ?_
  simp only [Bool.false_eq_true, if_false]
  refine wpS_of_wp (wp_skip ?_)
  cases c₀
  simp_all [bodyPostS, results, Try.results10]

theorem setCell_same {w : World} {b : Nat} {t : TypeId} {v : Value} (h : Cell1 w b t v) : w.setCell ⟨b, 0, none⟩ v = w := by
  have h' := h.out
  have e : (w.setCell ⟨b, 0, none⟩ v).heap = w.heap := by
    apply Array.ext_getElem?
    intro i
    by_cases hi : i = b
    · subst hi
      rw [blk_put h' 0 v (cs' := #[v]) rfl, h']
    · exact Below.heap_setCell w ⟨b, 0, none⟩ v i hi
  unfold World.setCell at *
  cases w
  simp only at e ⊢
  rw [e]

set_option maxRecDepth 100000 in
set_option maxHeartbeats 4000000 in
theorem parse_ok (s : ByteArray) (hs : s.size ≤ 4096) (w : World) {R : Nat → World → Value → Prop} {i1 k1 p1 n1 i2 p2 n2 : Int} {q1 q2 : ByteArray}
    (hRb : ∀ G W W' v, R G W v → Below W.heap.size W W' → R G W' v) (hRs : ∀ G W v b x, R G W v → Cell1 W b 37 (.pointer none) → R G (W.setCell ⟨b, 0, none⟩ x) v)
    (hn : ∀ G, NextTo G s 0 0 i1 k1 p1 n1 q1) (he : ∀ G, GivesFn 12 G s i1 k1 p1 n1 q1 0 (R G) (PS G s i2 0 p2 n2 q2 0)) :
    Calls Try.prog 6 #[.string s] w fun e w' => ∃ G b K caps, e = .returned (.tuple #[ptr b, .int .i64 0, .int .i64 0]) ∧ w'.heap[b]? = some (.cells #[.func (Fn.func K) #[] caps, .string s] 57 (0, 0)) ∧ R G w' (.func (Fn.func K) #[] caps) ∧ Below w.heap.size w w' := by
  have hmf : ∀ (fn : Fn) (first cap : Array Value) (w : World), (Instr.makeFunc fn first cap).run Try.prog w = .ok (.func fn first cap) w := fun _ _ _ _ => rfl
  have hz : ((s.size : Int) > 4096) = False := eq_false (by omega)
  have hz2 : ((4096 : Int) < (s.size : Int)) = False := eq_false (by omega)
  go_enter_defers Try.func6, Try.ntmps6
  go_wp2_with fail
  have C0 : Cell1 ((((w.alloc (.cells #[.pointer none] 37)).alloc (.cells #[.int .i64 0] 3)).alloc (.cells #[.int .i64 0] 31)).alloc (.cells #[.string s, .int .i64 0, .int .i64 0, .int .i64 0, .int .i64 0, .string ⟨#[]⟩, .int .i64 0] 52)) w.heap.size 37 (.pointer none) := (((Cell1.new w _ _).alloc _).alloc _).alloc _
  have C1 : Cell1 ((((w.alloc (.cells #[.pointer none] 37)).alloc (.cells #[.int .i64 0] 3)).alloc (.cells #[.int .i64 0] 31)).alloc (.cells #[.string s, .int .i64 0, .int .i64 0, .int .i64 0, .int .i64 0, .string ⟨#[]⟩, .int .i64 0] 52)) (w.heap.size + 1) 3 (.int .i64 0) := by
    have := ((Cell1.new (w.alloc (.cells #[.pointer none] 37)) 3 (.int .i64 0)).alloc (.cells #[.int .i64 0] 31)).alloc (.cells #[.string s, .int .i64 0, .int .i64 0, .int .i64 0, .int .i64 0, .string ⟨#[]⟩, .int .i64 0] 52)
    simpa using this
  have C2 : Cell1 ((((w.alloc (.cells #[.pointer none] 37)).alloc (.cells #[.int .i64 0] 3)).alloc (.cells #[.int .i64 0] 31)).alloc (.cells #[.string s, .int .i64 0, .int .i64 0, .int .i64 0, .int .i64 0, .string ⟨#[]⟩, .int .i64 0] 52)) (w.heap.size + 1 + 1) 31 (.int .i64 0) := by
    have := (Cell1.new ((w.alloc (.cells #[.pointer none] 37)).alloc (.cells #[.int .i64 0] 3)) 31 (.int .i64 0)).alloc (.cells #[.string s, .int .i64 0, .int .i64 0, .int .i64 0, .int .i64 0, .string ⟨#[]⟩, .int .i64 0] 52)
    simpa using this
  have P0 : PS (w.heap.size + 1 + 1 + 1) s 0 0 0 0 ⟨#[]⟩ 0 ((((w.alloc (.cells #[.pointer none] 37)).alloc (.cells #[.int .i64 0] 3)).alloc (.cells #[.int .i64 0] 31)).alloc (.cells #[.string s, .int .i64 0, .int .i64 0, .int .i64 0, .int .i64 0, .string ⟨#[]⟩, .int .i64 0] 52)) := ⟨by
    have := heap_alloc_new (((w.alloc (.cells #[.pointer none] 37)).alloc (.cells #[.int .i64 0] 3)).alloc (.cells #[.int .i64 0] 31)) (.cells #[.string s, .int .i64 0, .int .i64 0, .int .i64 0, .int .i64 0, .string ⟨#[]⟩, .int .i64 0] 52)
    simpa [pc] using this⟩
  have hB : Below w.heap.size w ((((w.alloc (.cells #[.pointer none] 37)).alloc (.cells #[.int .i64 0] 3)).alloc (.cells #[.int .i64 0] 31)).alloc (.cells #[.string s, .int .i64 0, .int .i64 0, .int .i64 0, .int .i64 0, .string ⟨#[]⟩, .int .i64 0] 52)) := ((((Below.refl w.heap.size w).alloc (Nat.le_refl _) _).alloc (by simp) _).alloc (by simp; omega) _).alloc (by simp; omega) _
  generalize ((((w.alloc (.cells #[.pointer none] 37)).alloc (.cells #[.int .i64 0] 3)).alloc (.cells #[.int .i64 0] 31)).alloc (.cells #[.string s, .int .i64 0, .int .i64 0, .int .i64 0, .int .i64 0, .string ⟨#[]⟩, .int .i64 0] 52)) = wd at *
  generalize hG : w.heap.size + 1 + 1 + 1 = G at *
  refine (hn G _ _ _ _ wd P0).mono ?_
  rintro e w1 ⟨rfl, P1, K1⟩
  go_wp2_with fail
  refine (he G w1 P1).mono ?_
  rintro e w2 ⟨K, caps, rfl, hR, P2, K2⟩
  have c2 := P2.c2
  have KK := K1.trans K2
  replace C0 := C0.kp P0 (by decide) KK
  replace C1 := C1.kp P0 (by decide) KK
  replace C2 := C2.kp P0 (by decide) KK
  have hB2 : Below w.heap.size w w2 := ⟨KK.out.os.trans hB.os, KK.out.tape.trans hB.tape, KK.out.output.trans hB.output, Nat.le_trans hB.size KK.size, fun i hi => (KK.out.block i (Nat.lt_of_lt_of_le hi hB.size) (fun e => by have := Option.some.inj e; omega)).trans (hB.block i hi)⟩
  clear P0 P1 K1 K2 KK hB
  have C0a := C0.alloc (.cells #[.func (Fn.func K) #[] caps, .string s] 57)
  have C1a := C1.alloc (.cells #[.func (Fn.func K) #[] caps, .string s] 57)
  have C2a := C2.alloc (.cells #[.func (Fn.func K) #[] caps, .string s] 57)
  have l0 := blk_lt C0.out
  have l1 := blk_lt C1.out
  have l2 := blk_lt C2.out
  have z0 := C0a.at
  have z1 := C1a.at
  have z2 := C2a.at
  have y0 := blk_frozen C0a.out 0
  have y1 := blk_frozen C1a.out 0
  have y2 := blk_frozen C2a.out 0
  have z0' := C0.at
  have z1' := C1.at
  have z2' := C2.at
  have y0' := blk_frozen C0.out 0
  have y1' := blk_frozen C1.out 0
  have y2' := blk_frozen C2.out 0
  go_wp2_with fail
  have D0 : Cell1 (w2.setCell ⟨w.heap.size, 0, none⟩ (ptr w2.heap.size)) w.heap.size 37 (ptr w2.heap.size) := ⟨blk_put C0.out 0 _ rfl⟩
  have D1 : Cell1 (w2.setCell ⟨w.heap.size, 0, none⟩ (ptr w2.heap.size)) (w.heap.size + 1) 3 (.int .i64 0) := ⟨blk_far C1.out (by show w.heap.size + 1 ≠ w.heap.size; omega) _⟩
  have D2 : Cell1 (w2.setCell ⟨w.heap.size, 0, none⟩ (ptr w2.heap.size)) (w.heap.size + 1 + 1) 31 (.int .i64 0) := ⟨blk_far C2.out (by show w.heap.size + 1 + 1 ≠ w.heap.size; omega) _⟩
  have hR3 := hRs G w2 _ w.heap.size (ptr w2.heap.size) hR C0
  have hz3 : (w2.setCell ⟨w.heap.size, 0, none⟩ (ptr w2.heap.size)).heap.size = w2.heap.size := by simp [World.setCell]
  have hB3 : Below w.heap.size w (w2.setCell ⟨w.heap.size, 0, none⟩ (ptr w2.heap.size)) := ⟨hB2.os, hB2.tape, hB2.output, by rw [hz3]; exact hB2.size, fun i hi => (Below.heap_setCell w2 ⟨w.heap.size, 0, none⟩ _ i (by show i ≠ w.heap.size; omega)).trans (hB2.block i hi)⟩
  have e1 := setCell_same D1
  have e2 := setCell_same D2
  rw [e1, e2]
  clear e1 e2 C0 C1 C2 C0a C1a C2a z0 z1 z2 y0 y1 y2 z0' z1' z2' y0' y1' y2' hR hB2 c2 P2
  have hnew := heap_alloc_new (w2.setCell ⟨w.heap.size, 0, none⟩ (ptr w2.heap.size)) (.cells #[.func (Fn.func K) #[] caps, .string s] 57)
  rw [hz3] at hnew
  have hbA := below_alloc (Below.refl (w2.setCell ⟨w.heap.size, 0, none⟩ (ptr w2.heap.size)).heap.size (w2.setCell ⟨w.heap.size, 0, none⟩ (ptr w2.heap.size))) (.cells #[.func (Fn.func K) #[] caps, .string s] 57)
  have hR4 := hRb _ _ _ _ hR3 hbA
  have E0 := (D0.below hbA).at
  have E1 := (D1.below hbA).at
  have E2 := (D2.below hbA).at
  have hB4 : Below w.heap.size w ((w2.setCell ⟨w.heap.size, 0, none⟩ (ptr w2.heap.size)).alloc (.cells #[.func (Fn.func K) #[] caps, .string s] 57)) := hB3.trans (hbA.mono hB3.size)
  clear hR3 hbA D0 D1 D2 hB3 hz3
  generalize (w2.setCell ⟨w.heap.size, 0, none⟩ (ptr w2.heap.size)).alloc (.cells #[.func (Fn.func K) #[] caps, .string s] 57) = wf at *
  refine leaves_cons (f := 10) (args := #[ptr w.heap.size, ptr (w.heap.size + 1), ptr (w.heap.size + 1 + 1)]) (by simp) (by simp [go_sem]) ?_
  refine (catch_idle _ _ _ _).mono ?_
  rintro e u' w'' ⟨rfl, rfl, rfl⟩
  simp [Leaves, settle, results, Try.results6, go_sem, E0, E1, E2]
  exact ⟨G, K, caps, hnew, hR4, hB4⟩
end Go.Proofs.Ythkkfkiiopfkjaa.L4
