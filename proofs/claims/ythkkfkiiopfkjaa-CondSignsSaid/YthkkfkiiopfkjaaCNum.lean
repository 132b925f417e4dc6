import Derived.Test.YthkkfkiiopfkjaaCTake
set_option linter.unusedVariables false
set_option linter.unusedSimpArgs false
namespace Go.Proofs.Ythkkfkiiopfkjaa.L4
open Go.RowKit Go.Proofs.YthkkfkiiopfkjaaW.PrintWords

abbrev ptr (b : Nat) : Value := .pointer (some ⟨b, 0, none⟩)
/-- one cell of a type in a block of its own -/
structure Cell1 (w : World) (b : Nat) (t : TypeId) (v : Value) : Prop where mk :: (out : w.heap[b]? = some (.cells #[v] t (0, 0)))
section
variable {w w1 : World} {b G : Nat} {t : TypeId} {v : Value} {s : ByteArray} {i k p n : Int} {q : ByteArray} {d : Int}
theorem Cell1.new (w : World) (t : TypeId) (v : Value) : Cell1 (w.alloc (.cells #[v] t)) w.heap.size t v := ⟨heap_alloc_new _ _⟩
theorem Cell1.below (h : Cell1 w b t v) (hb : Below w.heap.size w w1) : Cell1 w1 b t v := ⟨blk_below h.out hb⟩
theorem Cell1.kp (h : Cell1 w b t v) (hP : PS G s i k p n q d w) (ht : t ≠ 52) (hK : Kp G w w1) : Cell1 w1 b t v := ⟨hK.blk h.out (blk_ne h.out hP.out ht)⟩
theorem Cell1.at (h : Cell1 w b t v) : w.cell? ⟨b, 0, none⟩ = some v := blk_cell h.out 0
theorem Cell1.alloc (h : Cell1 w b t v) (o : Obj) : Cell1 (w.alloc o) b t v := ⟨blk_alloc h.out o⟩
theorem PS.alloc (h : PS G s i k p n q d w) (o : Obj) : PS G s i k p n q d (w.alloc o) := ⟨blk_alloc h.out o⟩
end
theorem field2 (w : World) (a b m : Int) (q : ByteArray) : (Instr.field 50 (.agg #[.int .i64 a, .int .i64 b, .int .i64 m, .string q]) 2).run Try.prog w = .ok (.int .i64 m) w := by kernel_rfl
theorem field3 (w : World) (a b m : Int) (q : ByteArray) : (Instr.field 50 (.agg #[.int .i64 a, .int .i64 b, .int .i64 m, .string q]) 3).run Try.prog w = .ok (.string q) w := by kernel_rfl
/-- a closure that looks at a number -/
def NumC (w : World) (v gv : Value) (m : Int) (sg : ByteArray) : Prop :=
  ∃ b1 b2 b3, v = .func (Fn.func 57) #[] #[ptr b1, ptr b2, ptr b3] ∧ Cell1 w b1 68 gv ∧ Cell1 w b2 3 (.int .i64 m) ∧ Cell1 w b3 9 (.string sg)
theorem NumC.below {w w1 : World} {v gv : Value} {m : Int} {sg : ByteArray} (h : NumC w v gv m sg) (hb : Below w.heap.size w w1) : NumC w1 v gv m sg :=
  let ⟨b1, b2, b3, e, h1, h2, h3⟩ := h
  ⟨b1, b2, b3, e, h1.below hb, h2.below hb, h3.below hb⟩
theorem NumC.kp {w w1 : World} {v gv : Value} {m : Int} {sg : ByteArray} {G : Nat} {s : ByteArray} {i k p n : Int} {q : ByteArray} {d : Int} (h : NumC w v gv m sg) (hP : PS G s i k p n q d w) (hK : Kp G w w1) : NumC w1 v gv m sg :=
  let ⟨b1, b2, b3, e, h1, h2, h3⟩ := h
  ⟨b1, b2, b3, e, h1.kp hP (by decide) hK, h2.kp hP (by decide) hK, h3.kp hP (by decide) hK⟩

set_option maxRecDepth 100000 in
set_option maxHeartbeats 2000000 in
theorem number_any (G : Nat) (s : ByteArray) (i p n : Int) (sg : ByteArray) (d : Int) (w : World) (h : PS G s i 4 p n sg d w) (g : Nat) {i2 p2 m i3 k3 p3 n3 : Int} {q2 q3 : ByteArray}
    (h1 : NextTo G s i d i2 2 p2 m q2) (h2 : NextTo G s i2 d i3 k3 p3 n3 q3) :
    Calls Try.prog 51 #[ptr G, fnV g] w fun e w' => ∃ v, e = .returned v ∧ NumC w' v (fnV g) m sg ∧ PS G s i3 k3 p3 n3 q3 d w' ∧ Kp G w w' := by
  have hmf : ∀ (fn : Fn) (first cap : Array Value) (w : World), (Instr.makeFunc fn first cap).run Try.prog w = .ok (.func fn first cap) w := fun _ _ _ _ => rfl
  have hf2 := field2
  have hf3 := field3
  have A1 := Aside0.mk (Cell1.new w 68 (fnV g))
  have P1 := h.alloc (.cells #[fnV g] 68)
  have K1 := (Kp.refl G w).alloc (.cells #[fnV g] 68)
  clear h
  go_enter Try.func51, Try.ntmps51
  go_wp2_with fail
  generalize w.heap.size = b1 at *
  generalize w.alloc (.cells #[fnV g] 68) = w1 at *
  refine (is_no G s i 4 p n sg d w1 P1 1 _ (.inl (by decide))).mono ?_
  rintro e w1' ⟨rfl, rfl⟩
  go_wp2_with fail
  refine (take_any G s i 4 p n sg d _ P1 h1).mono ?_
  rintro e w2 ⟨rfl, P2, K2⟩
  have A2 := Aside0.mk (A1.out.kp P1 (by decide) K2)
  have B2 := Aside0.mk (Cell1.new w2 9 (.string sg))
  have A3 := Aside0.mk (A2.out.alloc (.cells #[.string sg] 9))
  have P3 := P2.alloc (.cells #[.string sg] 9)
  have K3 := (K1.trans K2).alloc (.cells #[.string sg] 9)
  clear P1 K1 P2 K2 A1 A2
  go_wp2_with fail
  generalize w2.heap.size = b2 at *
  generalize w2.alloc (.cells #[.string sg] 9) = w3 at *
  refine (take_any G s i2 2 p2 m q2 d _ P3 h2).mono ?_
  rintro e w4 ⟨rfl, P4, K4⟩
  have A5 := Aside0.mk ((A3.out.kp P3 (by decide) K4).alloc (.cells #[.int .i64 m] 3))
  have B5 := Aside0.mk ((B2.out.kp P3 (by decide) K4).alloc (.cells #[.int .i64 m] 3))
  have C5 := Aside0.mk (Cell1.new w4 3 (.int .i64 m))
  have P5 := P4.alloc (.cells #[.int .i64 m] 3)
  have K5 := (K3.trans K4).alloc (.cells #[.int .i64 m] 3)
  go_wp2_with fail
  go_ret
  exact ⟨_, rfl, ⟨_, _, _, rfl, A5.out, C5.out, B5.out⟩, P5, K5⟩
end Go.Proofs.Ythkkfkiiopfkjaa.L4
