import Derived.Test.YthkkfkiiopfkjaaCPart
import Derived.LoopN
set_option linter.unusedVariables false
set_option linter.unusedSimpArgs false
namespace Go.Proofs.Ythkkfkiiopfkjaa.L4
open Go.RowKit Go.Proofs.YthkkfkiiopfkjaaW.PrintWords

/-- what a part, a conjunction, a disjunction comes to -/
def GivesFn (f : FuncId) (G : Nat) (s : ByteArray) (i k p n : Int) (q : ByteArray) (d : Int) (R : World → Value → Prop) (PE : World → Prop) : Prop :=
  ∀ W, PS G s i k p n q d W → Calls Try.prog f #[ptr G] W fun e w' => ∃ K caps, e = .returned (.func (Fn.func K) #[] caps) ∧ R w' (.func (Fn.func K) #[] caps) ∧ PE w' ∧ Kp G W w'

set_option maxRecDepth 100000 in
set_option maxHeartbeats 2000000 in
theorem both_one {G : Nat} {s : ByteArray} {i k p n : Int} {q : ByteArray} {d : Int} {R : World → Value → Prop} {i1 k1 p1 n1 : Int} {q1 : ByteArray} {d1 : Int}
    (hp : GivesFn 30 G s i k p n q d R (PS G s i1 k1 p1 n1 q1 d1)) (hno : (k1 != 1) = true ∨ ((k1 != 1) = false ∧ (q1.toList == ([97, 110, 100] : List UInt8)) = false)) :
    GivesFn 20 G s i k p n q d R (PS G s i1 k1 p1 n1 q1 d1) := by
  intro W hP
  go_enter Try.func20, Try.ntmps20
  go_wp2_with fail
  refine (hp W hP).mono ?_
  rintro e w1 ⟨K, caps, rfl, hR, P1, K1⟩
  go_wp2_with fail
  refine wp_loop_rounds 1 ?_
  rw [rounds_succ]
  go_wp2_with fail
  refine (is_no G s i1 k1 p1 n1 q1 d1 w1 P1 1 ⟨#[97, 110, 100]⟩ (hno.imp id (fun h => ⟨h.1, by simpa [ByteArray.toList_eq] using h.2⟩))).mono ?_
  rintro e w2 ⟨rfl, rfl⟩
  go_wp2_with fail
  go_ret
  exact ⟨K, caps, rfl, hR, P1, K1⟩
set_option maxRecDepth 100000 in
set_option maxHeartbeats 2000000 in
theorem either_one {G : Nat} {s : ByteArray} {i k p n : Int} {q : ByteArray} {d : Int} {R : World → Value → Prop} {i1 k1 p1 n1 : Int} {q1 : ByteArray} {d1 : Int}
    (hp : GivesFn 20 G s i k p n q d R (PS G s i1 k1 p1 n1 q1 d1)) (hno : (k1 != 1) = true ∨ ((k1 != 1) = false ∧ (q1.toList == ([111, 114] : List UInt8)) = false)) :
    GivesFn 12 G s i k p n q d R (PS G s i1 k1 p1 n1 q1 d1) := by
  intro W hP
  go_enter Try.func12, Try.ntmps12
  go_wp2_with fail
  refine (hp W hP).mono ?_
  rintro e w1 ⟨K, caps, rfl, hR, P1, K1⟩
  go_wp2_with fail
  refine wp_loop_rounds 1 ?_
  rw [rounds_succ]
  go_wp2_with fail
  refine (is_no G s i1 k1 p1 n1 q1 d1 w1 P1 1 ⟨#[111, 114]⟩ (hno.imp id (fun h => ⟨h.1, by simpa [ByteArray.toList_eq] using h.2⟩))).mono ?_
  rintro e w2 ⟨rfl, rfl⟩
  go_wp2_with fail
  go_ret
  exact ⟨K, caps, rfl, hR, P1, K1⟩
/-- two closures, each in a block of its own, under a third -/
def AndC (w : World) (v : Value) (R1 R2 : World → Value → Prop) : Prop :=
  ∃ b1 b2 v1 v2, v = .func (Fn.func 31) #[] #[ptr b1, ptr b2] ∧ Cell1 w b1 54 v1 ∧ Cell1 w b2 54 v2 ∧ R1 w v1 ∧ R2 w v2

set_option maxRecDepth 100000 in
set_option maxHeartbeats 4000000 in
theorem both_two {G : Nat} {s : ByteArray} {i k p n : Int} {q : ByteArray} {d : Int} {R1 R2 : World → Value → Prop} {i1 p1 n1 : Int} {d1 : Int} {i2 k2 p2 n2 : Int} {q2 : ByteArray} {i3 k3 p3 n3 : Int} {q3 : ByteArray}
    (hk1 : ∀ W W' v, (∃ i k p n q d, PS G s i k p n q d W) → R1 W v → Kp G W W' → R1 W' v) (hk2 : ∀ W W' v, (∃ i k p n q d, PS G s i k p n q d W) → R2 W v → Kp G W W' → R2 W' v)
    (hp : GivesFn 30 G s i k p n q d R1 (PS G s i1 1 p1 n1 ⟨#[97, 110, 100]⟩ d1)) (hn : NextTo G s i1 d1 i2 k2 p2 n2 q2)
    (hp2 : GivesFn 30 G s i2 k2 p2 n2 q2 d1 R2 (PS G s i3 k3 p3 n3 q3 d1)) (hno : (k3 != 1) = true) :
    GivesFn 20 G s i k p n q d (fun w v => AndC w v R1 R2) (PS G s i3 k3 p3 n3 q3 d1) := by
  have hmf : ∀ (fn : Fn) (first cap : Array Value) (w : World), (Instr.makeFunc fn first cap).run Try.prog w = .ok (.func fn first cap) w := fun _ _ _ _ => rfl
  intro W hP
  go_enter Try.func20, Try.ntmps20
  go_wp2_with fail
  refine (hp W hP).mono ?_
  rintro e w1 ⟨K, caps, rfl, hR, P1, K1⟩
  go_wp2_with fail
  refine wp_loop_rounds 2 ?_
  rw [rounds_succ]
  go_wp2_with fail
  refine (is_yes G s i1 1 p1 n1 ⟨#[97, 110, 100]⟩ d1 w1 P1 hn).mono ?_
  rintro e w2 ⟨rfl, P2, K2⟩
  go_wp2_with fail
  refine (hp2 w2 P2).mono ?_
  rintro e w3 ⟨L, caps2, rfl, hR2, P3, K3⟩
  go_wp2_with fail
  have A5 : Cell1 ((w3.alloc (.cells #[.func (Fn.func K) #[] caps] 54)).alloc (.cells #[.func (Fn.func L) #[] caps2] 54)) w3.heap.size 54 (.func (Fn.func K) #[] caps) := (Cell1.new w3 _ _).alloc _
  have B5 : Cell1 ((w3.alloc (.cells #[.func (Fn.func K) #[] caps] 54)).alloc (.cells #[.func (Fn.func L) #[] caps2] 54)) (w3.heap.size + 1) 54 (.func (Fn.func L) #[] caps2) := by
    have := Cell1.new (w3.alloc (.cells #[.func (Fn.func K) #[] caps] 54)) 54 (.func (Fn.func L) #[] caps2)
    rw [show (w3.alloc (.cells #[.func (Fn.func K) #[] caps] 54)).heap.size = w3.heap.size + 1 by simp] at this
    exact this
  have KA : Kp G w3 ((w3.alloc (.cells #[.func (Fn.func K) #[] caps] 54)).alloc (.cells #[.func (Fn.func L) #[] caps2] 54)) := ((Kp.refl G w3).alloc _).alloc _
  have P5 := (P3.alloc (.cells #[.func (Fn.func K) #[] caps] 54)).alloc (.cells #[.func (Fn.func L) #[] caps2] 54)
  have hR5 := hk1 _ _ _ ⟨_, _, _, _, _, _, P1⟩ hR ((K2.trans K3).trans KA)
  have hR6 := hk2 _ _ _ ⟨_, _, _, _, _, _, P3⟩ hR2 KA
  have K5 := ((K1.trans K2).trans K3).trans KA
  clear KA hR hR2 P1 P2 P3 K1 K2 K3
  generalize (w3.alloc (.cells #[.func (Fn.func K) #[] caps] 54)).alloc (.cells #[.func (Fn.func L) #[] caps2] 54) = w5 at *
  generalize w3.heap.size = b3 at *
  rw [rounds_succ]
  go_wp2_with fail
  refine (is_no G s i3 k3 p3 n3 q3 d1 w5 P5 1 ⟨#[97, 110, 100]⟩ (.inl hno)).mono ?_
  rintro e w6 ⟨rfl, rfl⟩
  go_wp2_with fail
  go_ret
  exact ⟨_, _, rfl, ⟨_, _, _, _, rfl, A5, B5, hR5, hR6⟩, P5, K5⟩

set_option maxRecDepth 100000 in
set_option maxHeartbeats 1000000 in
theorem deeper_any {G : Nat} {s : ByteArray} {i k p n : Int} {q : ByteArray} {d : Int} {w : World} (h : PS G s i k p n q d w) (hd0 : 0 ≤ d) (hd : d < 20) {i2 k2 p2 n2 : Int} {q2 : ByteArray} (hn : NextTo G s i (d + 1) i2 k2 p2 n2 q2) :
    Calls Try.prog 48 #[ptr G] w fun e w' => e = .returned (.tuple #[]) ∧ PS G s i2 k2 p2 n2 q2 (d + 1) w' ∧ Kp G w w' := by
  have c6 := h.c6
  have f6 := h.fz 6
  have hne : (d == 20) = false := by simp; omega
  have hw : wrap64 (d + 1) = d + 1 := by unfold wrap64; omega
  go_enter Try.func48, Try.ntmps48
  go_wp2_with fail
  have P1 := h.set6 (d + 1)
  have K1 := (Kp.refl G w).set 6 (.int .i64 (d + 1))
  refine (hn _ _ _ _ _ P1).mono ?_
  rintro e w2 ⟨rfl, P2, K2⟩
  go_wp2_with fail
  first
    | go_end0
    | refine bodyPost_ret (results_none rfl _ _ _) rfl ?_
  exact ⟨rfl, P2, K1.trans K2⟩
/-- a closure that denies one -/
def NotC (w : World) (v : Value) (R : World → Value → Prop) : Prop := ∃ b h, v = .func (Fn.func 49) #[] #[ptr b] ∧ Cell1 w b 54 h ∧ R w h

set_option maxRecDepth 100000 in
set_option maxHeartbeats 4000000 in
theorem part_not {G : Nat} {s : ByteArray} {i p n : Int} {d : Int} {R : World → Value → Prop} (hd0 : 0 ≤ d) (hd : d < 20) {i2 k2 p2 n2 : Int} {q2 : ByteArray} {i3 k3 p3 n3 : Int} {q3 : ByteArray}
    (hk : ∀ W W' v, (∃ i k p n q d, PS G s i k p n q d W) → R W v → Kp G W W' → R W' v)
    (hn : NextTo G s i (d + 1) i2 k2 p2 n2 q2) (hp : GivesFn 30 G s i2 k2 p2 n2 q2 (d + 1) R (PS G s i3 k3 p3 n3 q3 (d + 1))) :
    GivesFn 30 G s i 1 p n ⟨#[110, 111, 116]⟩ d (fun w v => NotC w v R) (PS G s i3 k3 p3 n3 q3 d) := by
  have hmf : ∀ (fn : Fn) (first cap : Array Value) (w : World), (Instr.makeFunc fn first cap).run Try.prog w = .ok (.func fn first cap) w := fun _ _ _ _ => rfl
  have hw : wrap64 (d + 1 - 1) = d := by unfold wrap64; omega
  intro w h
  have c2 := h.c2
  have c3 := h.c3
  have c4 := h.c4
  have c5 := h.c5
  have hlt := h.lt
  go_enter Try.func30, Try.ntmps30
  go_wp2_with fail
  have P1 := h.alloc (.cells #[.int .i64 1, .int .i64 p, .int .i64 n, .string ⟨#[110, 111, 116]⟩] 50)
  have K1 := (Kp.refl G w).alloc (.cells #[.int .i64 1, .int .i64 p, .int .i64 n, .string ⟨#[110, 111, 116]⟩] 50)
  clear c2 c3 c4 c5 h
  generalize w.alloc (.cells #[.int .i64 1, .int .i64 p, .int .i64 n, .string ⟨#[110, 111, 116]⟩] 50) = w1 at *
  generalize hX : w.heap.size = X at *
  refine (deeper_any P1 hd0 hd hn).mono ?_
  rintro e w2 ⟨rfl, P2, K2⟩
  go_wp2_with fail
  refine (hp w2 P2).mono ?_
  rintro e w3 ⟨L, caps, rfl, hR, P3, K3⟩
  have c6 := (P3.alloc (.cells #[.func (Fn.func L) #[] caps] 54)).c6
  have f6 := (P3.alloc (.cells #[.func (Fn.func L) #[] caps] 54)).fz 6
  have gB : G < w3.heap.size := P3.lt
  have KA := ((Kp.refl G w3).set 6 (.int .i64 d)).alloc (.cells #[.func (Fn.func L) #[] caps] 54)
  have hR5 := Aside0.mk (hk _ _ _ ⟨_, _, _, _, _, _, P3⟩ hR KA)
  have A5 : Aside0 (Cell1 ((w3.setCell ⟨G, 6, none⟩ (.int .i64 d)).alloc (.cells #[.func (Fn.func L) #[] caps] 54)) w3.heap.size 54 (.func (Fn.func L) #[] caps)) := ⟨by
    have := Cell1.new (w3.setCell ⟨G, 6, none⟩ (.int .i64 d)) 54 (.func (Fn.func L) #[] caps)
    rw [show (w3.setCell ⟨G, 6, none⟩ (.int .i64 d)).heap.size = w3.heap.size by simp [World.setCell]] at this
    exact this⟩
  have P5 := Aside0.mk ((P3.set6 d).alloc (.cells #[.func (Fn.func L) #[] caps] 54))
  have K5 := Aside0.mk (((K1.trans K2).trans K3).trans KA)
  clear hR KA P3 P1 P2 K1 K2 K3
  go_wp2_with fail
  go_ret
  exact ⟨_, _, rfl, ⟨_, _, rfl, A5.out, hR5.out⟩, P5.out, K5.out⟩
end Go.Proofs.Ythkkfkiiopfkjaa.L4
