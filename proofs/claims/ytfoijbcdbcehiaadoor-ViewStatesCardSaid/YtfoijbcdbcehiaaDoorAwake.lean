import Derived.Test.YtfoijbcdbcehiaaDoorSeam
import Derived.KernelRfl
set_option linter.unusedVariables false
set_option linter.unusedSimpArgs false
namespace Go.Proofs.YtfoijbcdbcehiaaDoor.L4
open Go.RowKit Go.Proofs.YtfoijbcdbcehiaaDoorW.PrintWords

/-- the state that is all zero -/
def s0 : Sv := ⟨none, 0, [], none, 0, [], false, 0, false, 0, 0, 0, 0, 0, none, 0, [], none, 0, [], false, none, 0, [], false, 0, 0, 0, 0, 0, false, false, false, none, 0, [], none, 0, [], none, 0, [], none, 0, []⟩
theorem z64 : I64 0 := by unfold I64; omega
theorem s0_ok (w : World) : s0.Ok w :=
  { r0 := Kd.C_nil _ _, m0 := Nat.le_refl _, r1 := Kd.C_nil _ _, m1 := Nat.le_refl _, r10 := Kd.C_nil _ _, m10 := Nat.le_refl _, r11 := Kd.C_nil _ _, m11 := Nat.le_refl _, r13 := Kd.C_nil _ _, m13 := Nat.le_refl _, r23 := Kd.C_nil _ _, m23 := Nat.le_refl _, r24 := Kd.C_nil _ _, m24 := Nat.le_refl _, r25 := Kd.C_nil _ _, m25 := Nat.le_refl _, r26 := Kd.C_nil _ _, m26 := Nat.le_refl _,
    n3 := z64, n5 := z64, n6 := z64, n7 := z64, n8 := z64, n9 := z64, n15 := z64, n16 := z64, n17 := z64, n18 := z64, n19 := z64,
    b0 := fun _ h => (by cases h), b1 := fun _ h => (by cases h), b10 := fun _ h => (by cases h), b11 := fun _ h => (by cases h), b13 := fun _ h => (by cases h), b24 := fun _ h => (by cases h), b25 := fun _ h => (by cases h) }
theorem s0_where : joinS (whereW 3 s0) sp = (⟨#[115, 116, 101, 112, 32, 51, 32, 108, 105, 110, 101, 32, 48, 32, 112, 99, 32, 48, 32, 112, 104, 97, 115, 101, 32, 98, 101, 103, 105, 110]⟩ : ByteArray) := by decide +kernel
set_option maxRecDepth 100000 in
theorem awake_any (w : World) (ht : Tb w) : Calls Tryd.prog 5 #[] w fun e w' => e = .returned (.bool true) ∧ Below w.heap.size w w' := by
  have h := where_any 3 s0 w (by unfold I64; omega) (s0_ok w) ht
  rw [s0_where] at h
  have hv : s0.v = .agg #[.slice none 0 0, .slice none 0 0, .bool false, .int .i64 0, .bool false, .int .i64 0, .int .i64 0, .int .i64 0, .int .i64 0, .int .i64 0, .slice none 0 0, .slice none 0 0, .bool false, .slice none 0 0, .bool false, .int .i64 0, .int .i64 0, .int .i64 0, .int .i64 0, .int .i64 0, .bool false, .bool false, .bool false, .slice none 0 0, .slice none 0 0, .slice none 0 0, .slice none 0 0] := rfl
  rw [hv] at h
  go_enter Tryd.func5, Tryd.ntmps5
  go_wp2_with (go_at_call 6; refine h.mono ?_; rintro e w1 ⟨rfl, hb⟩)
  go_ret
  exact ⟨rfl, hb⟩
end Go.Proofs.YtfoijbcdbcehiaaDoor.L4
