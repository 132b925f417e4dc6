import Derived.Test.YthkkfkiiopfkjaaCNum
set_option linter.unusedVariables false
set_option linter.unusedSimpArgs false
namespace Go.Proofs.Ythkkfkiiopfkjaa.L4
open Go.RowKit Go.Proofs.YthkkfkiiopfkjaaW.PrintWords

/-- bytes in a block that is not the parser's -/
def BytesAt (G : Nat) (w : World) (b : Nat) (l : List Int) : Prop := b ≠ G ∧ ∀ j, j < l.length → w.cell? ⟨b, j, none⟩ = some (.int .u8 (l.getD j 0))
theorem BytesAt.below {G b : Nat} {w w1 : World} {l : List Int} (h : BytesAt G w b l) (hb : Below w.heap.size w w1) : BytesAt G w1 b l :=
  ⟨h.1, fun j hj => pw_cell_below hb (h.2 j hj)⟩
theorem BytesAt.kp {G b : Nat} {w w1 : World} {l : List Int} (h : BytesAt G w b l) (hK : Kp G w w1) : BytesAt G w1 b l :=
  ⟨h.1, fun j hj => (hK.out.cell_far ⟨b, j, none⟩ (World.block_lt_of_cell? w _ (h.2 j hj)) (fun e => h.1 (Option.some.inj e))).trans (h.2 j hj)⟩
/-- a closure that looks at a text, and one that holds bytes -/
def TxtC (G : Nat) (K : Nat) (w : World) (v gv : Value) (q : ByteArray) : Prop :=
  ∃ b1 b2 b3 c, v = .func (Fn.func K) #[] #[ptr b1, ptr b2] ∧ Cell1 w b1 72 gv ∧ Cell1 w b2 23 (.slice (some ⟨b3, 0, none⟩) q.size c) ∧ q.size ≤ c ∧ BytesAt G w b3 (bytesOf q)
theorem TxtC.below {G K : Nat} {w w1 : World} {v gv : Value} {q : ByteArray} (h : TxtC G K w v gv q) (hb : Below w.heap.size w w1) : TxtC G K w1 v gv q :=
  let ⟨b1, b2, b3, c, e, h1, h2, h3, h4⟩ := h
  ⟨b1, b2, b3, c, e, h1.below hb, h2.below hb, h3, h4.below hb⟩
theorem TxtC.kp {G K : Nat} {w w1 : World} {v gv : Value} {q : ByteArray} {s : ByteArray} {i k p n : Int} {q1 : ByteArray} {d : Int} (h : TxtC G K w v gv q) (hP : PS G s i k p n q1 d w) (hK : Kp G w w1) : TxtC G K w1 v gv q :=
  let ⟨b1, b2, b3, c, e, h1, h2, h3, h4⟩ := h
  ⟨b1, b2, b3, c, e, h1.kp hP (by decide) hK, h2.kp hP (by decide) hK, h3, h4.kp hK⟩
/-- a closure that looks at a text's change -/
def ChgC (w : World) (v gv : Value) : Prop := ∃ b1, v = .func (Fn.func 58) #[] #[ptr b1] ∧ Cell1 w b1 72 gv
theorem ChgC.below {w w1 : World} {v gv : Value} (h : ChgC w v gv) (hb : Below w.heap.size w w1) : ChgC w1 v gv :=
  let ⟨b1, e, h1⟩ := h
  ⟨b1, e, h1.below hb⟩
theorem ChgC.kp {w w1 : World} {v gv : Value} {G : Nat} {s : ByteArray} {i k p n : Int} {q1 : ByteArray} {d : Int} (h : ChgC w v gv) (hP : PS G s i k p n q1 d w) (hK : Kp G w w1) : ChgC w1 v gv :=
  let ⟨b1, e, h1⟩ := h
  ⟨b1, e, h1.kp hP (by decide) hK⟩

set_option maxRecDepth 100000 in
set_option maxHeartbeats 2000000 in
theorem text_changed (G : Nat) (s : ByteArray) (i p n : Int) (d : Int) (w : World) (h : PS G s i 1 p n ⟨#[99, 104, 97, 110, 103, 101, 100]⟩ d w) (g : Nat) {i2 k2 p2 n2 : Int} {q2 : ByteArray}
    (h1 : NextTo G s i d i2 k2 p2 n2 q2) :
    Calls Try.prog 52 #[ptr G, fnV g] w fun e w' => ∃ v, e = .returned v ∧ ChgC w' v (fnV g) ∧ PS G s i2 k2 p2 n2 q2 d w' ∧ Kp G w w' := by
  have hmf : ∀ (fn : Fn) (first cap : Array Value) (w : World), (Instr.makeFunc fn first cap).run Try.prog w = .ok (.func fn first cap) w := fun _ _ _ _ => rfl
  have A1 := Aside0.mk (Cell1.new w 72 (fnV g))
  have P1 := h.alloc (.cells #[fnV g] 72)
  have K1 := (Kp.refl G w).alloc (.cells #[fnV g] 72)
  clear h
  go_enter Try.func52, Try.ntmps52
  go_wp2_with fail
  generalize w.heap.size = b1 at *
  generalize w.alloc (.cells #[fnV g] 72) = w1 at *
  refine (is_yes G s i 1 p n _ d w1 P1 h1).mono ?_
  rintro e w2 ⟨rfl, P2, K2⟩
  have A2 := Aside0.mk (A1.out.kp P1 (by decide) K2)
  go_wp2_with fail
  go_ret
  exact ⟨_, rfl, ⟨_, rfl, A2.out⟩, P2, K1.trans K2⟩

set_option maxRecDepth 100000 in
set_option maxHeartbeats 4000000 in
theorem text_is (has : Bool) (G : Nat) (s : ByteArray) (i p n : Int) (d : Int) (w : World) (h : PS G s i 1 p n (if has then ⟨#[104, 97, 115]⟩ else ⟨#[105, 115]⟩) d w) (g : Nat) {i2 p2 n2 i3 k3 p3 n3 : Int} {q2 q3 : ByteArray}
    (h1 : NextTo G s i d i2 3 p2 n2 q2) (h2 : NextTo G s i2 d i3 k3 p3 n3 q3) (hq : q2.size ≤ 100000) :
    Calls Try.prog 52 #[ptr G, fnV g] w fun e w' => ∃ v, e = .returned v ∧ TxtC G (if has then 60 else 62) w' v (fnV g) q2 ∧ PS G s i3 k3 p3 n3 q3 d w' ∧ Kp G w w' := by
  have hmf : ∀ (fn : Fn) (first cap : Array Value) (w : World), (Instr.makeFunc fn first cap).run Try.prog w = .ok (.func fn first cap) w := fun _ _ _ _ => rfl
  have hf2 := field2
  have hf3 := field3
  have A1 := Aside0.mk (Cell1.new w 72 (fnV g))
  have P1 := h.alloc (.cells #[fnV g] 72)
  have K1 := (Kp.refl G w).alloc (.cells #[fnV g] 72)
  clear h
  have tail : ∀ (W : World), PS G s i2 3 p2 n2 q2 d W → Calls Try.prog 56 #[ptr G, .int .i64 3] W fun e w' => e = .returned (.agg #[.int .i64 3, .int .i64 p2, .int .i64 n2, .string q2]) ∧ PS G s i3 k3 p3 n3 q3 d w' ∧ Kp G W w' := fun W hW => take_any G s i2 3 p2 n2 q2 d W hW h2
  have kb := fun W' => print_bytes (P := Try.prog) 9 23 5 Try.underlying9 Try.underlying23 Try.underlying5 q2 W'
  go_enter Try.func52, Try.ntmps52
  go_wp2_with fail
  generalize w.heap.size = b1 at *
  generalize w.alloc (.cells #[fnV g] 72) = w1 at *
  refine (is_no G s i 1 p n _ d w1 P1 1 _ (.inr ⟨by decide, by cases has <;> decide +kernel⟩)).mono ?_
  rintro e w1' ⟨rfl, rfl⟩
  cases has
  · go_wp2_with fail
    refine (is_no G s i 1 p n _ d _ P1 1 _ (.inr ⟨by decide, by decide +kernel⟩)).mono ?_
    rintro e w1 ⟨rfl, rfl⟩
    go_wp2_with fail
    refine (is_yes G s i 1 p n _ d _ P1 h1).mono ?_
    rintro e w2 ⟨rfl, P2, K2⟩
    have A2 := Aside0.mk (A1.out.kp P1 (by decide) K2)
    go_wp2_with fail
    refine (tail w2 P2).mono ?_
    rintro e w3 ⟨rfl, P3, K3⟩
    have hbw : Below w3.heap.size w3 (Lib.bytesWorld w3 5 q2) := bytes_below (Below.refl _ _) (Nat.le_refl _) 5 q2
    have hrd := bytes_reads w3 5 q2 (by omega)
    have hlt := P3.lt
    have B3 : Aside0 (BytesAt G (Lib.bytesWorld w3 5 q2) w3.heap.size (bytesOf q2)) := ⟨⟨by omega, fun j hj => by
      rw [bytesOf_length] at hj
      obtain ⟨ad, e0, hc⟩ := hrd.2.2 (by omega)
      cases e0
      have := hc j hj
      rw [add_plain] at this
      exact this⟩⟩
    have hcap : q2.size ≤ grownCap w3 q2.size 0 5 := grownCap_ge _ _ _ _
    have A3 := Aside0.mk ((A2.out.kp P2 (by decide) K3).below hbw)
    have P4 := P3.below hbw
    have K4 := ((K1.trans K2).trans K3).trans (Kp.of_below hbw)
    clear hrd hbw P1 P2 P3 K1 K2 K3 A1 A2
    go_wp2_with fail
    generalize grownCap w3 q2.size 0 5 = cc at *
    generalize w3.heap.size = b3 at *
    generalize Lib.bytesWorld w3 5 q2 = w4 at *
    go_ret
    have hb := below_alloc (Below.refl w4.heap.size w4) (.cells #[.slice (some ⟨b3, 0, none⟩) q2.size cc] 23)
    exact ⟨_, rfl, ⟨_, _, b3, cc, rfl, A3.out.below hb, Cell1.new w4 _ _, hcap, B3.out.below hb⟩, P4.alloc _, K4.alloc _⟩
  · go_wp2_with fail
    refine (is_yes G s i 1 p n _ d _ P1 h1).mono ?_
    rintro e w2 ⟨rfl, P2, K2⟩
    have A2 := Aside0.mk (A1.out.kp P1 (by decide) K2)
    go_wp2_with fail
    refine (tail w2 P2).mono ?_
    rintro e w3 ⟨rfl, P3, K3⟩
    have hbw : Below w3.heap.size w3 (Lib.bytesWorld w3 5 q2) := bytes_below (Below.refl _ _) (Nat.le_refl _) 5 q2
    have hrd := bytes_reads w3 5 q2 (by omega)
    have hlt := P3.lt
    have B3 : Aside0 (BytesAt G (Lib.bytesWorld w3 5 q2) w3.heap.size (bytesOf q2)) := ⟨⟨by omega, fun j hj => by
      rw [bytesOf_length] at hj
      obtain ⟨ad, e0, hc⟩ := hrd.2.2 (by omega)
      cases e0
      have := hc j hj
      rw [add_plain] at this
      exact this⟩⟩
    have hcap : q2.size ≤ grownCap w3 q2.size 0 5 := grownCap_ge _ _ _ _
    have A3 := Aside0.mk ((A2.out.kp P2 (by decide) K3).below hbw)
    have P4 := P3.below hbw
    have K4 := ((K1.trans K2).trans K3).trans (Kp.of_below hbw)
    clear hrd hbw P1 P2 P3 K1 K2 K3 A1 A2
    go_wp2_with fail
    generalize grownCap w3 q2.size 0 5 = cc at *
    generalize w3.heap.size = b3 at *
    generalize Lib.bytesWorld w3 5 q2 = w4 at *
    go_ret
    have hb := below_alloc (Below.refl w4.heap.size w4) (.cells #[.slice (some ⟨b3, 0, none⟩) q2.size cc] 23)
    exact ⟨_, rfl, ⟨_, _, b3, cc, rfl, A3.out.below hb, Cell1.new w4 _ _, hcap, B3.out.below hb⟩, P4.alloc _, K4.alloc _⟩
end Go.Proofs.Ythkkfkiiopfkjaa.L4
