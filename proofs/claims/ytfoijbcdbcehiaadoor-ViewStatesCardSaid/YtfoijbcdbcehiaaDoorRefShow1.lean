import Derived.Test.YtfoijbcdbcehiaaDoorShow4
import Derived.Test.YtfoijbcdbcehiaaDoorRefText
import Derived.KernelRfl
set_option linter.unusedVariables false
set_option linter.unusedSimpArgs false
namespace Go.Proofs.YtfoijbcdbcehiaaDoor.L4
open Go.RowKit Go.Proofs.YtfoijbcdbcehiaaDoorW.PrintWords

/-- what the reference's Show answers of what is shown -/
abbrev Shown (w : World) (l : List ByteArray) : Ending → World → Prop := fun e w' => ∃ u, e = .returned (.tuple #[u, .bool true]) ∧ Kd.R Kd.string 9 w' w.heap.size (fun _ => True) u l ∧ Below w.heap.size w w'

set_option maxRecDepth 100000 in
set_option maxHeartbeats 4000000 in
theorem refShow_pattern (s : Sv) (w : World) (hs : s.Ok w) (hm : Sm s) : Calls Tryd.prog 9 #[s.v, .string (⟨#[112, 97, 116, 116, 101, 114, 110]⟩ : ByteArray)] w (Shown w [quo s.l0]) := by
  have HI := InB.new s w
  have hc : (w.alloc (.cells s.cells 34)).cell? ⟨w.heap.size, 0, none⟩ = some (.slice s.a0 s.l0.length s.c0) := HI.cell 0
  have hr := Kd.C_alloc hs.r0 (.cells s.cells 34)
  have hB := hs.b0
  have hM := hs.m0
  have hl := hm.l0
  have kB := (Below.refl w.heap.size w).alloc (Nat.le_refl _) (.cells s.cells 34)
  clear HI hs hm
  unfold Sv.v
  generalize s.cells = cs at *
  go_enter Tryd.func9, Tryd.ntmps9
  go_wp2_with (go_at_call 23; refine (refQuote_any _ _ s.l0 _ hr hM hB (by omega)).mono ?_; rintro e w1 ⟨rfl, hb1⟩)
  have g1 := kB.trans (hb1.mono kB.size)
  have hfin : Shown w [quo s.l0] (.returned (.tuple #[.slice (some ⟨w1.heap.size, 0, none⟩) 1 1, .bool true])) (w1.alloc (.cells #[.string (strOfNums (quL s.l0))] 9)) :=
    ⟨_, rfl, Kd.R_of_own (enc := Value.string) (h1 := fun _ => rfl) (own_lit_of w1 w.heap.size 9 [strOfNums (quL s.l0)] g1.size (by simp)) (fun _ _ => trivial), g1.alloc g1.size _⟩
  go_ret2
  exact hfin

set_option maxRecDepth 100000 in
set_option maxHeartbeats 4000000 in
theorem refShow_hold (s : Sv) (w : World) (hs : s.Ok w) (hm : Sm s) : Calls Tryd.prog 9 #[s.v, .string (⟨#[104, 111, 108, 100]⟩ : ByteArray)] w (Shown w [quo s.l1]) := by
  have HI := InB.new s w
  have hc : (w.alloc (.cells s.cells 34)).cell? ⟨w.heap.size, 1, none⟩ = some (.slice s.a1 s.l1.length s.c1) := HI.cell 1
  have hr := Kd.C_alloc hs.r1 (.cells s.cells 34)
  have hB := hs.b1
  have hM := hs.m1
  have hl := hm.l1
  have kB := (Below.refl w.heap.size w).alloc (Nat.le_refl _) (.cells s.cells 34)
  clear HI hs hm
  unfold Sv.v
  generalize s.cells = cs at *
  go_enter Tryd.func9, Tryd.ntmps9
  go_wp2_with (go_at_call 23; refine (refQuote_any _ _ s.l1 _ hr hM hB (by omega)).mono ?_; rintro e w1 ⟨rfl, hb1⟩)
  have g1 := kB.trans (hb1.mono kB.size)
  have hfin : Shown w [quo s.l1] (.returned (.tuple #[.slice (some ⟨w1.heap.size, 0, none⟩) 1 1, .bool true])) (w1.alloc (.cells #[.string (strOfNums (quL s.l1))] 9)) :=
    ⟨_, rfl, Kd.R_of_own (enc := Value.string) (h1 := fun _ => rfl) (own_lit_of w1 w.heap.size 9 [strOfNums (quL s.l1)] g1.size (by simp)) (fun _ _ => trivial), g1.alloc g1.size _⟩
  go_ret2
  exact hfin

set_option maxRecDepth 100000 in
set_option maxHeartbeats 4000000 in
theorem refShow_rest (s : Sv) (w : World) (hs : s.Ok w) (hm : Sm s) : Calls Tryd.prog 9 #[s.v, .string (⟨#[114, 101, 115, 116]⟩ : ByteArray)] w (Shown w [quo s.l10]) := by
  have HI := InB.new s w
  have hc : (w.alloc (.cells s.cells 34)).cell? ⟨w.heap.size, 10, none⟩ = some (.slice s.a10 s.l10.length s.c10) := HI.cell 10
  have hr := Kd.C_alloc hs.r10 (.cells s.cells 34)
  have hB := hs.b10
  have hM := hs.m10
  have hl := hm.l10
  have kB := (Below.refl w.heap.size w).alloc (Nat.le_refl _) (.cells s.cells 34)
  clear HI hs hm
  unfold Sv.v
  generalize s.cells = cs at *
  go_enter Tryd.func9, Tryd.ntmps9
  go_wp2_with (go_at_call 23; refine (refQuote_any _ _ s.l10 _ hr hM hB (by omega)).mono ?_; rintro e w1 ⟨rfl, hb1⟩)
  have g1 := kB.trans (hb1.mono kB.size)
  have hfin : Shown w [quo s.l10] (.returned (.tuple #[.slice (some ⟨w1.heap.size, 0, none⟩) 1 1, .bool true])) (w1.alloc (.cells #[.string (strOfNums (quL s.l10))] 9)) :=
    ⟨_, rfl, Kd.R_of_own (enc := Value.string) (h1 := fun _ => rfl) (own_lit_of w1 w.heap.size 9 [strOfNums (quL s.l10)] g1.size (by simp)) (fun _ _ => trivial), g1.alloc g1.size _⟩
  go_ret2
  exact hfin

set_option maxRecDepth 100000 in
set_option maxHeartbeats 4000000 in
theorem refShow_out (s : Sv) (w : World) (hs : s.Ok w) (hm : Sm s) : Calls Tryd.prog 9 #[s.v, .string (⟨#[111, 117, 116]⟩ : ByteArray)] w (Shown w [quo s.l11]) := by
  have HI := InB.new s w
  have hc : (w.alloc (.cells s.cells 34)).cell? ⟨w.heap.size, 11, none⟩ = some (.slice s.a11 s.l11.length s.c11) := HI.cell 11
  have hr := Kd.C_alloc hs.r11 (.cells s.cells 34)
  have hB := hs.b11
  have hM := hs.m11
  have hl := hm.l11
  have kB := (Below.refl w.heap.size w).alloc (Nat.le_refl _) (.cells s.cells 34)
  clear HI hs hm
  unfold Sv.v
  generalize s.cells = cs at *
  go_enter Tryd.func9, Tryd.ntmps9
  go_wp2_with (go_at_call 23; refine (refQuote_any _ _ s.l11 _ hr hM hB (by omega)).mono ?_; rintro e w1 ⟨rfl, hb1⟩)
  have g1 := kB.trans (hb1.mono kB.size)
  have hfin : Shown w [quo s.l11] (.returned (.tuple #[.slice (some ⟨w1.heap.size, 0, none⟩) 1 1, .bool true])) (w1.alloc (.cells #[.string (strOfNums (quL s.l11))] 9)) :=
    ⟨_, rfl, Kd.R_of_own (enc := Value.string) (h1 := fun _ => rfl) (own_lit_of w1 w.heap.size 9 [strOfNums (quL s.l11)] g1.size (by simp)) (fun _ _ => trivial), g1.alloc g1.size _⟩
  go_ret2
  exact hfin

set_option maxRecDepth 100000 in
set_option maxHeartbeats 4000000 in
theorem refShow_place (s : Sv) (w : World) (hs : s.Ok w) (hm : Sm s) : Calls Tryd.prog 9 #[s.v, .string (⟨#[112, 108, 97, 99, 101]⟩ : ByteArray)] w (Shown w [quo s.l13]) := by
  have HI := InB.new s w
  have hc : (w.alloc (.cells s.cells 34)).cell? ⟨w.heap.size, 13, none⟩ = some (.slice s.a13 s.l13.length s.c13) := HI.cell 13
  have hr := Kd.C_alloc hs.r13 (.cells s.cells 34)
  have hB := hs.b13
  have hM := hs.m13
  have hl := hm.l13
  have kB := (Below.refl w.heap.size w).alloc (Nat.le_refl _) (.cells s.cells 34)
  clear HI hs hm
  unfold Sv.v
  generalize s.cells = cs at *
  go_enter Tryd.func9, Tryd.ntmps9
  go_wp2_with (go_at_call 23; refine (refQuote_any _ _ s.l13 _ hr hM hB (by omega)).mono ?_; rintro e w1 ⟨rfl, hb1⟩)
  have g1 := kB.trans (hb1.mono kB.size)
  have hfin : Shown w [quo s.l13] (.returned (.tuple #[.slice (some ⟨w1.heap.size, 0, none⟩) 1 1, .bool true])) (w1.alloc (.cells #[.string (strOfNums (quL s.l13))] 9)) :=
    ⟨_, rfl, Kd.R_of_own (enc := Value.string) (h1 := fun _ => rfl) (own_lit_of w1 w.heap.size 9 [strOfNums (quL s.l13)] g1.size (by simp)) (fun _ _ => trivial), g1.alloc g1.size _⟩
  go_ret2
  exact hfin

set_option maxRecDepth 100000 in
set_option maxHeartbeats 4000000 in
theorem refShow_none (s : Sv) (what : ByteArray) (w : World) (hk : NoKey what.data.toList) : Calls Tryd.prog 9 #[s.v, .string what] w fun e w' => e = .returned (.tuple #[.slice none 0 0, .bool false]) ∧ Below w.heap.size w w' := by
  have kB := (Below.refl w.heap.size w).alloc (Nat.le_refl _) (.cells s.cells 34)
  unfold Sv.v
  generalize s.cells = cs at *
  go_enter Tryd.func9, Tryd.ntmps9
  have e0 : (what.toList == [112, 97, 116, 116, 101, 114, 110]) = false := by rw [ByteArray.toList_eq]; exact beq_eq_false_iff_ne.2 hk.1
  have e1 : (what.toList == [104, 111, 108, 100]) = false := by rw [ByteArray.toList_eq]; exact beq_eq_false_iff_ne.2 hk.2.1
  have e2 : (what.toList == [114, 101, 115, 116]) = false := by rw [ByteArray.toList_eq]; exact beq_eq_false_iff_ne.2 hk.2.2.1
  have e3 : (what.toList == [111, 117, 116]) = false := by rw [ByteArray.toList_eq]; exact beq_eq_false_iff_ne.2 hk.2.2.2.1
  have e4 : (what.toList == [112, 108, 97, 99, 101]) = false := by rw [ByteArray.toList_eq]; exact beq_eq_false_iff_ne.2 hk.2.2.2.2.1
  have e5 : (what.toList == [114, 101, 103, 115]) = false := by rw [ByteArray.toList_eq]; exact beq_eq_false_iff_ne.2 hk.2.2.2.2.2.1
  have e6 : (what.toList == [119, 97, 105, 116, 115]) = false := by rw [ByteArray.toList_eq]; exact beq_eq_false_iff_ne.2 hk.2.2.2.2.2.2.1
  have e7 : (what.toList == [102, 105, 108, 101, 115]) = false := by rw [ByteArray.toList_eq]; exact beq_eq_false_iff_ne.2 hk.2.2.2.2.2.2.2
  clear hk
  go_wp2_with fail
  go_ret2
  exact ⟨rfl, kB⟩
end Go.Proofs.YtfoijbcdbcehiaaDoor.L4
