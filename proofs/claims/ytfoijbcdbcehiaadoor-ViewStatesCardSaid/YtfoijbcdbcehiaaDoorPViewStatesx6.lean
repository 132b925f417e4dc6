-- Written by a program (wip/tools/myprint.py over the kit's print): the functions that are proved by hand stand in YtfoijbcdbcehiaaDoorHViewStates
import Derived.Test.YtfoijbcdbcehiaaDoorPViewStatesx0
import Derived.Test.YtfoijbcdbcehiaaDoorPViewStatesx2
namespace Go.Proofs.YtfoijbcdbcehiaaDoor.PViewStates
open Go.RowKit Go.Proofs.YtfoijbcdbcehiaaDoorW.PrintWords Go.Proofs.YtfoijbcdbcehiaaDoorW.PrintLast Go.Proofs.YtfoijbcdbcehiaaDoorW.PrintMore
attribute [local go_sem] max2_int min2_int max_two min_two max_three min_three max_four min_four   -- for this text's walks alone
set_option linter.unusedVariables false
set_option linter.unusedSimpArgs false

/-! ### view_bit: function 35 -/
def view_bit.f (a0 : Bool) : Option (ByteArray) := if a0 = true then (some (⟨#[49]⟩ : ByteArray)) else (some (⟨#[48]⟩ : ByteArray))
set_option maxHeartbeats 8000000 in
set_option maxRecDepth 100000 in
theorem view_bit.calls (a0 : Bool) (r : ByteArray) (w : World) (h : view_bit.f a0 = some r) :
    Calls Tryd.prog 35 #[.bool a0] w fun e w' => e = .returned (.string r) ∧ Drawn0 w w' := by
  have H : (if a0 = true then (some (⟨#[49]⟩ : ByteArray)) else (some (⟨#[48]⟩ : ByteArray))) = some r := h
  clear h
  by_cases c2 : a0 = true
  · subst c2
    have H1 : (some (⟨#[49]⟩ : ByteArray)) = some r := by rw [if_pos rfl] at H; exact H
    clear H
    have H := H1
    clear H1
    obtain rfl := Option.some.inj H
    go_enter Tryd.func35, Tryd.ntmps35
    go_wp2
    go_ret
    exact ⟨by first | rfl | (simp; done) | (simp [*]; done), by repeat (first | exact Drawn0.refl _ | apply Drawn0.step)⟩
  · replace c2 := Bool.eq_false_iff.mpr c2
    subst c2
    have H1 : (some (⟨#[48]⟩ : ByteArray)) = some r := by rw [if_neg (show ¬ (false = true) by decide)] at H; exact H
    clear H
    have H := H1
    clear H1
    obtain rfl := Option.some.inj H
    go_enter Tryd.func35, Tryd.ntmps35
    go_wp2
    go_ret
    exact ⟨by first | rfl | (simp; done) | (simp [*]; done), by repeat (first | exact Drawn0.refl _ | apply Drawn0.step)⟩

/-! ### view_regs: function 20 -/
def view_regs.f (l0_0 : List Int) (l0_1 : List Int) (a0_2 : Bool) (a0_3 : Int) (a0_4 : Bool) (a0_5 : Int) (a0_6 : Int) (a0_7 : Int) (a0_8 : Int) (a0_9 : Int) (l0_10 : List Int) (l0_11 : List Int) (a0_12 : Bool) (l0_13 : List Int) (a0_14 : Bool) (a0_15 : Int) (a0_16 : Int) (a0_17 : Int) (a0_18 : Int) (a0_19 : Int) (a0_20 : Bool) (a0_21 : Bool) (a0_22 : Bool) (l0_23 : List Bool) (l0_24 : List (S48)) (l0_25 : List (S43)) (l0_26 : List Bool) : Option (List ByteArray) := (view_bit.f a0_2).bind fun t181 => ((view_bit.f a0_4).bind fun t182 => ((digit_Text.f a0_5).bind fun t183 => ((view_bit.f a0_20).bind fun t184 => ((view_bit.f a0_21).bind fun t185 => ((view_bit.f a0_22).bind fun t186 => ((digit_Text.f a0_8).bind fun t187 => ((digit_Text.f a0_9).bind fun t188 => ((show_Row.f (([(⟨#[110, 108]⟩ : ByteArray), t181, (⟨#[115, 117, 98, 115, 116]⟩ : ByteArray), t182, (⟨#[108, 97, 115, 116]⟩ : ByteArray), t183, (⟨#[115, 105, 108, 101, 110, 116]⟩ : ByteArray), t184, (⟨#[113, 117, 105, 116]⟩ : ByteArray), t185, (⟨#[97, 103, 97, 105, 110]⟩ : ByteArray), t186, (⟨#[99, 117, 114]⟩ : ByteArray), t187, (⟨#[109, 105, 115, 115, 105, 110, 103]⟩ : ByteArray), t188] : List ByteArray))).bind fun t192 => (some (([t192] : List ByteArray)))))))))))
def view_regs.T1 : Bool × List (List Nat × List Nat) := (true, [([], []), ([0], [0]), ([1], [1]), ([2], [2]), ([], []), ([4], [4]), ([5], [5]), ([6, 3], [6]), ([], []), ([8], [8]), ([9], [9]), ([10, 7], [10]), ([], []), ([12], [12]), ([13, 11], [13]), ([], []), ([15], [15]), ([16, 14], [16]), ([], []), ([18], [18]), ([19, 17], [19]), ([], []), ([21], [21]), ([22], [22]), ([23, 20], [23]), ([], []), ([25], [25]), ([26], [26]), ([27, 24], [27]), ([3, 7, 11, 14, 17, 20, 24, 28], [3, 7, 11, 14, 17, 20, 24, 28]), ([29, 28], [29]), ([30], [30]), ([31, 30, 0, 1, 2, 3, 4, 5, 6, 7, 8, 9, 10, 11, 12, 13, 14, 15, 16, 17, 18, 19, 20, 21, 22, 23, 24, 25, 26, 27, 28, 29, 30, 31], [31])])
def view_regs.B1 : List Nat := [0, 1, 3, 7, 0, 16, 48, 127, 0, 256, 768, 2047, 0, 4096, 16383, 0, 32768, 131071, 0, 262144, 1048575, 0, 2097152, 6291456, 16777215, 0, 33554432, 100663296, 268435455, 536870911, 1073741823, 2147483647, 4294967295]
theorem view_regs.tab1 : rtab .any (opsOf Tryd.f20 1) = view_regs.T1 := by kernel_rfl
theorem view_regs.bits1 : waitsOk view_regs.T1.2 view_regs.B1 = true := by kernel_rfl
set_option maxHeartbeats 8000000 in
set_option maxRecDepth 100000 in
theorem view_regs.calls (A0_0 : Option Addr) (c0_0 : Nat) (l0_0 : List Int) (A0_1 : Option Addr) (c0_1 : Nat) (l0_1 : List Int) (a0_2 : Bool) (a0_3 : Int) (a0_4 : Bool) (a0_5 : Int) (a0_6 : Int) (a0_7 : Int) (a0_8 : Int) (a0_9 : Int) (A0_10 : Option Addr) (c0_10 : Nat) (l0_10 : List Int) (A0_11 : Option Addr) (c0_11 : Nat) (l0_11 : List Int) (a0_12 : Bool) (A0_13 : Option Addr) (c0_13 : Nat) (l0_13 : List Int) (a0_14 : Bool) (a0_15 : Int) (a0_16 : Int) (a0_17 : Int) (a0_18 : Int) (a0_19 : Int) (a0_20 : Bool) (a0_21 : Bool) (a0_22 : Bool) (A0_23 : Option Addr) (c0_23 : Nat) (l0_23 : List Bool) (A0_24 : Option Addr) (c0_24 : Nat) (l0_24 : List (S48)) (A0_25 : Option Addr) (c0_25 : Nat) (l0_25 : List (S43)) (A0_26 : Option Addr) (c0_26 : Nat) (l0_26 : List Bool) (r : List ByteArray) (w : World) (hr0_0 : Kd.C (Kd.int .u8) w A0_0 l0_0.length l0_0) (hc0_0 : l0_0.length ≤ c0_0) (hr0_1 : Kd.C (Kd.int .u8) w A0_1 l0_1.length l0_1) (hc0_1 : l0_1.length ≤ c0_1) (hr0_10 : Kd.C (Kd.int .u8) w A0_10 l0_10.length l0_10) (hc0_10 : l0_10.length ≤ c0_10) (hr0_11 : Kd.C (Kd.int .u8) w A0_11 l0_11.length l0_11) (hc0_11 : l0_11.length ≤ c0_11) (hr0_13 : Kd.C (Kd.int .u8) w A0_13 l0_13.length l0_13) (hc0_13 : l0_13.length ≤ c0_13) (hr0_23 : Kd.C Kd.bool w A0_23 l0_23.length l0_23) (hc0_23 : l0_23.length ≤ c0_23) (hr0_24 : Kd.C k48 w A0_24 l0_24.length l0_24) (hc0_24 : l0_24.length ≤ c0_24) (hr0_25 : Kd.C k43 w A0_25 l0_25.length l0_25) (hc0_25 : l0_25.length ≤ c0_25) (hr0_26 : Kd.C Kd.bool w A0_26 l0_26.length l0_26) (hc0_26 : l0_26.length ≤ c0_26) (TW_ : Go.Proofs.YtfoijbcdbcehiaaDoor.L4.Tb w) (h : view_regs.f l0_0 l0_1 a0_2 a0_3 a0_4 a0_5 a0_6 a0_7 a0_8 a0_9 l0_10 l0_11 a0_12 l0_13 a0_14 a0_15 a0_16 a0_17 a0_18 a0_19 a0_20 a0_21 a0_22 l0_23 l0_24 l0_25 l0_26 = some r) :
    Calls Tryd.prog 20 #[.agg #[.slice A0_0 l0_0.length c0_0, .slice A0_1 l0_1.length c0_1, .bool a0_2, .int .i64 a0_3, .bool a0_4, .int .i64 a0_5, .int .i64 a0_6, .int .i64 a0_7, .int .i64 a0_8, .int .i64 a0_9, .slice A0_10 l0_10.length c0_10, .slice A0_11 l0_11.length c0_11, .bool a0_12, .slice A0_13 l0_13.length c0_13, .bool a0_14, .int .i64 a0_15, .int .i64 a0_16, .int .i64 a0_17, .int .i64 a0_18, .int .i64 a0_19, .bool a0_20, .bool a0_21, .bool a0_22, .slice A0_23 l0_23.length c0_23, .slice A0_24 l0_24.length c0_24, .slice A0_25 l0_25.length c0_25, .slice A0_26 l0_26.length c0_26]] w fun e w' => ∃ v0_ : Value, e = .returned (v0_) ∧ Kd.R Kd.string 9 w' w.heap.size (fun _ => True) v0_ r ∧ Below w.heap.size w w' := by
  have TW0_ := Go.Proofs.YtfoijbcdbcehiaaDoorW.PrintWords.Aside0.mk TW_
  clear TW_
  have hu34 := Tryd.underlying34
  have HR0_0 := Aside0.mk hr0_0
  have HC0_0 := Aside0.mk hc0_0
  clear hr0_0 hc0_0
  have HR0_1 := Aside0.mk hr0_1
  have HC0_1 := Aside0.mk hc0_1
  clear hr0_1 hc0_1
  have HR0_10 := Aside0.mk hr0_10
  have HC0_10 := Aside0.mk hc0_10
  clear hr0_10 hc0_10
  have HR0_11 := Aside0.mk hr0_11
  have HC0_11 := Aside0.mk hc0_11
  clear hr0_11 hc0_11
  have HR0_13 := Aside0.mk hr0_13
  have HC0_13 := Aside0.mk hc0_13
  clear hr0_13 hc0_13
  have HR0_23 := Aside0.mk hr0_23
  have HC0_23 := Aside0.mk hc0_23
  clear hr0_23 hc0_23
  have HR0_24 := Aside0.mk hr0_24
  have HC0_24 := Aside0.mk hc0_24
  clear hr0_24 hc0_24
  have HR0_25 := Aside0.mk hr0_25
  have HC0_25 := Aside0.mk hc0_25
  clear hr0_25 hc0_25
  have HR0_26 := Aside0.mk hr0_26
  have HC0_26 := Aside0.mk hc0_26
  clear hr0_26 hc0_26
  have HB := Aside0.mk (Below.refl w.heap.size w)
  have H : ((view_bit.f a0_2).bind fun t181 => ((view_bit.f a0_4).bind fun t182 => ((digit_Text.f a0_5).bind fun t183 => ((view_bit.f a0_20).bind fun t184 => ((view_bit.f a0_21).bind fun t185 => ((view_bit.f a0_22).bind fun t186 => ((digit_Text.f a0_8).bind fun t187 => ((digit_Text.f a0_9).bind fun t188 => ((show_Row.f (([(⟨#[110, 108]⟩ : ByteArray), t181, (⟨#[115, 117, 98, 115, 116]⟩ : ByteArray), t182, (⟨#[108, 97, 115, 116]⟩ : ByteArray), t183, (⟨#[115, 105, 108, 101, 110, 116]⟩ : ByteArray), t184, (⟨#[113, 117, 105, 116]⟩ : ByteArray), t185, (⟨#[97, 103, 97, 105, 110]⟩ : ByteArray), t186, (⟨#[99, 117, 114]⟩ : ByteArray), t187, (⟨#[109, 105, 115, 115, 105, 110, 103]⟩ : ByteArray), t188] : List ByteArray))).bind fun t192 => (some (([t192] : List ByteArray)))))))))))) = some r := h
  clear h
  replace H := Option.bind_eq_some_iff.mp H
  obtain ⟨t181, A20, H⟩ := H
  replace H : ((view_bit.f a0_4).bind fun t182 => ((digit_Text.f a0_5).bind fun t183 => ((view_bit.f a0_20).bind fun t184 => ((view_bit.f a0_21).bind fun t185 => ((view_bit.f a0_22).bind fun t186 => ((digit_Text.f a0_8).bind fun t187 => ((digit_Text.f a0_9).bind fun t188 => ((show_Row.f (([(⟨#[110, 108]⟩ : ByteArray), t181, (⟨#[115, 117, 98, 115, 116]⟩ : ByteArray), t182, (⟨#[108, 97, 115, 116]⟩ : ByteArray), t183, (⟨#[115, 105, 108, 101, 110, 116]⟩ : ByteArray), t184, (⟨#[113, 117, 105, 116]⟩ : ByteArray), t185, (⟨#[97, 103, 97, 105, 110]⟩ : ByteArray), t186, (⟨#[99, 117, 114]⟩ : ByteArray), t187, (⟨#[109, 105, 115, 115, 105, 110, 103]⟩ : ByteArray), t188] : List ByteArray))).bind fun t192 => (some (([t192] : List ByteArray))))))))))) = some r := H
  have A2 := Aside0.mk A20
  clear A20
  replace H := Option.bind_eq_some_iff.mp H
  obtain ⟨t182, A30, H⟩ := H
  replace H : ((digit_Text.f a0_5).bind fun t183 => ((view_bit.f a0_20).bind fun t184 => ((view_bit.f a0_21).bind fun t185 => ((view_bit.f a0_22).bind fun t186 => ((digit_Text.f a0_8).bind fun t187 => ((digit_Text.f a0_9).bind fun t188 => ((show_Row.f (([(⟨#[110, 108]⟩ : ByteArray), t181, (⟨#[115, 117, 98, 115, 116]⟩ : ByteArray), t182, (⟨#[108, 97, 115, 116]⟩ : ByteArray), t183, (⟨#[115, 105, 108, 101, 110, 116]⟩ : ByteArray), t184, (⟨#[113, 117, 105, 116]⟩ : ByteArray), t185, (⟨#[97, 103, 97, 105, 110]⟩ : ByteArray), t186, (⟨#[99, 117, 114]⟩ : ByteArray), t187, (⟨#[109, 105, 115, 115, 105, 110, 103]⟩ : ByteArray), t188] : List ByteArray))).bind fun t192 => (some (([t192] : List ByteArray)))))))))) = some r := H
  have A3 := Aside0.mk A30
  clear A30
  replace H := Option.bind_eq_some_iff.mp H
  obtain ⟨t183, A40, H⟩ := H
  replace H : ((view_bit.f a0_20).bind fun t184 => ((view_bit.f a0_21).bind fun t185 => ((view_bit.f a0_22).bind fun t186 => ((digit_Text.f a0_8).bind fun t187 => ((digit_Text.f a0_9).bind fun t188 => ((show_Row.f (([(⟨#[110, 108]⟩ : ByteArray), t181, (⟨#[115, 117, 98, 115, 116]⟩ : ByteArray), t182, (⟨#[108, 97, 115, 116]⟩ : ByteArray), t183, (⟨#[115, 105, 108, 101, 110, 116]⟩ : ByteArray), t184, (⟨#[113, 117, 105, 116]⟩ : ByteArray), t185, (⟨#[97, 103, 97, 105, 110]⟩ : ByteArray), t186, (⟨#[99, 117, 114]⟩ : ByteArray), t187, (⟨#[109, 105, 115, 115, 105, 110, 103]⟩ : ByteArray), t188] : List ByteArray))).bind fun t192 => (some (([t192] : List ByteArray))))))))) = some r := H
  have A4 := Aside0.mk A40
  clear A40
  replace H := Option.bind_eq_some_iff.mp H
  obtain ⟨t184, A50, H⟩ := H
  replace H : ((view_bit.f a0_21).bind fun t185 => ((view_bit.f a0_22).bind fun t186 => ((digit_Text.f a0_8).bind fun t187 => ((digit_Text.f a0_9).bind fun t188 => ((show_Row.f (([(⟨#[110, 108]⟩ : ByteArray), t181, (⟨#[115, 117, 98, 115, 116]⟩ : ByteArray), t182, (⟨#[108, 97, 115, 116]⟩ : ByteArray), t183, (⟨#[115, 105, 108, 101, 110, 116]⟩ : ByteArray), t184, (⟨#[113, 117, 105, 116]⟩ : ByteArray), t185, (⟨#[97, 103, 97, 105, 110]⟩ : ByteArray), t186, (⟨#[99, 117, 114]⟩ : ByteArray), t187, (⟨#[109, 105, 115, 115, 105, 110, 103]⟩ : ByteArray), t188] : List ByteArray))).bind fun t192 => (some (([t192] : List ByteArray)))))))) = some r := H
  have A5 := Aside0.mk A50
  clear A50
  replace H := Option.bind_eq_some_iff.mp H
  obtain ⟨t185, A60, H⟩ := H
  replace H : ((view_bit.f a0_22).bind fun t186 => ((digit_Text.f a0_8).bind fun t187 => ((digit_Text.f a0_9).bind fun t188 => ((show_Row.f (([(⟨#[110, 108]⟩ : ByteArray), t181, (⟨#[115, 117, 98, 115, 116]⟩ : ByteArray), t182, (⟨#[108, 97, 115, 116]⟩ : ByteArray), t183, (⟨#[115, 105, 108, 101, 110, 116]⟩ : ByteArray), t184, (⟨#[113, 117, 105, 116]⟩ : ByteArray), t185, (⟨#[97, 103, 97, 105, 110]⟩ : ByteArray), t186, (⟨#[99, 117, 114]⟩ : ByteArray), t187, (⟨#[109, 105, 115, 115, 105, 110, 103]⟩ : ByteArray), t188] : List ByteArray))).bind fun t192 => (some (([t192] : List ByteArray))))))) = some r := H
  have A6 := Aside0.mk A60
  clear A60
  replace H := Option.bind_eq_some_iff.mp H
  obtain ⟨t186, A70, H⟩ := H
  replace H : ((digit_Text.f a0_8).bind fun t187 => ((digit_Text.f a0_9).bind fun t188 => ((show_Row.f (([(⟨#[110, 108]⟩ : ByteArray), t181, (⟨#[115, 117, 98, 115, 116]⟩ : ByteArray), t182, (⟨#[108, 97, 115, 116]⟩ : ByteArray), t183, (⟨#[115, 105, 108, 101, 110, 116]⟩ : ByteArray), t184, (⟨#[113, 117, 105, 116]⟩ : ByteArray), t185, (⟨#[97, 103, 97, 105, 110]⟩ : ByteArray), t186, (⟨#[99, 117, 114]⟩ : ByteArray), t187, (⟨#[109, 105, 115, 115, 105, 110, 103]⟩ : ByteArray), t188] : List ByteArray))).bind fun t192 => (some (([t192] : List ByteArray)))))) = some r := H
  have A7 := Aside0.mk A70
  clear A70
  replace H := Option.bind_eq_some_iff.mp H
  obtain ⟨t187, A80, H⟩ := H
  replace H : ((digit_Text.f a0_9).bind fun t188 => ((show_Row.f (([(⟨#[110, 108]⟩ : ByteArray), t181, (⟨#[115, 117, 98, 115, 116]⟩ : ByteArray), t182, (⟨#[108, 97, 115, 116]⟩ : ByteArray), t183, (⟨#[115, 105, 108, 101, 110, 116]⟩ : ByteArray), t184, (⟨#[113, 117, 105, 116]⟩ : ByteArray), t185, (⟨#[97, 103, 97, 105, 110]⟩ : ByteArray), t186, (⟨#[99, 117, 114]⟩ : ByteArray), t187, (⟨#[109, 105, 115, 115, 105, 110, 103]⟩ : ByteArray), t188] : List ByteArray))).bind fun t192 => (some (([t192] : List ByteArray))))) = some r := H
  have A8 := Aside0.mk A80
  clear A80
  replace H := Option.bind_eq_some_iff.mp H
  obtain ⟨t188, A90, H⟩ := H
  replace H : ((show_Row.f (([(⟨#[110, 108]⟩ : ByteArray), t181, (⟨#[115, 117, 98, 115, 116]⟩ : ByteArray), t182, (⟨#[108, 97, 115, 116]⟩ : ByteArray), t183, (⟨#[115, 105, 108, 101, 110, 116]⟩ : ByteArray), t184, (⟨#[113, 117, 105, 116]⟩ : ByteArray), t185, (⟨#[97, 103, 97, 105, 110]⟩ : ByteArray), t186, (⟨#[99, 117, 114]⟩ : ByteArray), t187, (⟨#[109, 105, 115, 115, 105, 110, 103]⟩ : ByteArray), t188] : List ByteArray))).bind fun t192 => (some (([t192] : List ByteArray)))) = some r := H
  have A9 := Aside0.mk A90
  clear A90
  obtain ⟨y189, hy189⟩ : ∃ y_ : List ByteArray, y_ = (([(⟨#[110, 108]⟩ : ByteArray), t181, (⟨#[115, 117, 98, 115, 116]⟩ : ByteArray), t182, (⟨#[108, 97, 115, 116]⟩ : ByteArray), t183, (⟨#[115, 105, 108, 101, 110, 116]⟩ : ByteArray), t184, (⟨#[113, 117, 105, 116]⟩ : ByteArray), t185, (⟨#[97, 103, 97, 105, 110]⟩ : ByteArray), t186, (⟨#[99, 117, 114]⟩ : ByteArray), t187, (⟨#[109, 105, 115, 115, 105, 110, 103]⟩ : ByteArray), t188] : List ByteArray)) := ⟨_, rfl⟩
  replace H : ((show_Row.f y189).bind fun t192 => (some (([t192] : List ByteArray)))) = some r := by first | (rw [hy189]; with_reducible exact H) | (have H2_ := (Option.bind_some _ _).symm.trans H; rw [hy189]; with_reducible exact H2_) | (have H2_ := (Option.bind_some _ _).symm.trans H; with_reducible exact H2_) | with_reducible exact H | (rw [hy189]; exact H) | exact H
  have Ny189 := Aside0.mk hy189
  clear hy189
  replace H := Option.bind_eq_some_iff.mp H
  obtain ⟨t192, A100, H⟩ := H
  replace H : (some (([t192] : List ByteArray))) = some r := H
  have A10 := Aside0.mk A100
  clear A100
  obtain ⟨y193, hy193⟩ : ∃ y_ : List ByteArray, y_ = (([t192] : List ByteArray)) := ⟨_, rfl⟩
  replace H : (some y193) = some r := by first | (rw [hy193]; with_reducible exact H) | (have H2_ := (Option.bind_some _ _).symm.trans H; rw [hy193]; with_reducible exact H2_) | (have H2_ := (Option.bind_some _ _).symm.trans H; with_reducible exact H2_) | with_reducible exact H | (rw [hy193]; exact H) | exact H
  have Ny193 := Aside0.mk hy193
  clear hy193
  obtain rfl := Option.some.inj H
  go_enter Tryd.func20, Tryd.ntmps20
  try go_wp2_with (first | ((with_reducible refine gate_dst (N := 1) rfl ?_); refine box_event ?hg (N := 1) ?hd (cs := #[.slice A0_0 l0_0.length c0_0, .slice A0_1 l0_1.length c0_1, .bool a0_2, .int .i64 a0_3, .bool a0_4, .int .i64 a0_5, .int .i64 a0_6, .int .i64 a0_7, .int .i64 a0_8, .int .i64 a0_9, .slice A0_10 l0_10.length c0_10, .slice A0_11 l0_11.length c0_11, .bool a0_12, .slice A0_13 l0_13.length c0_13, .bool a0_14, .int .i64 a0_15, .int .i64 a0_16, .int .i64 a0_17, .int .i64 a0_18, .int .i64 a0_19, .bool a0_20, .bool a0_21, .bool a0_22, .slice A0_23 l0_23.length c0_23, .slice A0_24 l0_24.length c0_24, .slice A0_25 l0_25.length c0_25, .slice A0_26 l0_26.length c0_26]) (t := 34) ?hr ?_; (case hd => rfl); (case hg => rfl); (case hr => first | (go_simp; done) | (go_simp; rfl)); intro gb180 hg w11 hbox hb; have n0_ := Aside0.mk (below_step (by repeat (first | (with_reducible first | exact HB.out | apply below_alloc | apply pw_below_drewN | apply below_drew1) | exact HB.out)) hb); have n1_ := Aside0.mk (hbox); have n2_ := Aside0.mk ((by rw [hg]; exact (below_size (by repeat (first | (with_reducible first | exact HB.out | apply below_alloc | apply pw_below_drewN | apply below_drew1) | exact HB.out))) : w.heap.size ≤ gb180)); have n3_ := Aside0.mk ((by rw [hg]; exact (below_size (by repeat (first | (with_reducible first | exact HB.out | apply below_alloc | apply pw_below_drewN | apply below_drew1) | exact HB.out))) : w.heap.size ≤ gb180)); clear HB; have HB := n0_; have BK180 := n1_; have GW180 := n2_; have GE180 := n3_; clear n0_ n1_ n2_ n3_; clear hb hbox hg))
  have n0_ := Aside0.mk (blk_drew BK180.out)
  have n1_ := Aside0.mk (below_drew1 HB.out)
  clear BK180
  clear HB
  have BK180 := n0_
  have HB := n1_
  clear n0_ n1_
  refine start_ (n := 33) (S := fun w' => w'.cell? ⟨gb180, 0, none⟩ = some (.slice A0_0 l0_0.length c0_0) ∧ w'.cell? ⟨gb180, 1, none⟩ = some (.slice A0_1 l0_1.length c0_1) ∧ w'.cell? ⟨gb180, 2, none⟩ = some (.bool a0_2) ∧ w'.cell? ⟨gb180, 3, none⟩ = some (.int .i64 a0_3) ∧ w'.cell? ⟨gb180, 4, none⟩ = some (.bool a0_4) ∧ w'.cell? ⟨gb180, 5, none⟩ = some (.int .i64 a0_5) ∧ w'.cell? ⟨gb180, 6, none⟩ = some (.int .i64 a0_6) ∧ w'.cell? ⟨gb180, 7, none⟩ = some (.int .i64 a0_7) ∧ w'.cell? ⟨gb180, 8, none⟩ = some (.int .i64 a0_8) ∧ w'.cell? ⟨gb180, 9, none⟩ = some (.int .i64 a0_9) ∧ w'.cell? ⟨gb180, 10, none⟩ = some (.slice A0_10 l0_10.length c0_10) ∧ w'.cell? ⟨gb180, 11, none⟩ = some (.slice A0_11 l0_11.length c0_11) ∧ w'.cell? ⟨gb180, 12, none⟩ = some (.bool a0_12) ∧ w'.cell? ⟨gb180, 13, none⟩ = some (.slice A0_13 l0_13.length c0_13) ∧ w'.cell? ⟨gb180, 14, none⟩ = some (.bool a0_14) ∧ w'.cell? ⟨gb180, 15, none⟩ = some (.int .i64 a0_15) ∧ w'.cell? ⟨gb180, 16, none⟩ = some (.int .i64 a0_16) ∧ w'.cell? ⟨gb180, 17, none⟩ = some (.int .i64 a0_17) ∧ w'.cell? ⟨gb180, 18, none⟩ = some (.int .i64 a0_18) ∧ w'.cell? ⟨gb180, 19, none⟩ = some (.int .i64 a0_19) ∧ w'.cell? ⟨gb180, 20, none⟩ = some (.bool a0_20) ∧ w'.cell? ⟨gb180, 21, none⟩ = some (.bool a0_21) ∧ w'.cell? ⟨gb180, 22, none⟩ = some (.bool a0_22) ∧ w'.cell? ⟨gb180, 23, none⟩ = some (.slice A0_23 l0_23.length c0_23) ∧ w'.cell? ⟨gb180, 24, none⟩ = some (.slice A0_24 l0_24.length c0_24) ∧ w'.cell? ⟨gb180, 25, none⟩ = some (.slice A0_25 l0_25.length c0_25) ∧ w'.cell? ⟨gb180, 26, none⟩ = some (.slice A0_26 l0_26.length c0_26)) (ds := []) #[false, false, false, false, false, false, false, false, false, false, false, false, false, false, false, false, false, false, false, false, false, false, false, false, false, false, false, false, false, false, false, false, false] (by kernel_rfl) rfl rfl ⟨(blk_cell BK180.out 0).trans rfl, (blk_cell BK180.out 1).trans rfl, (blk_cell BK180.out 2).trans rfl, (blk_cell BK180.out 3).trans rfl, (blk_cell BK180.out 4).trans rfl, (blk_cell BK180.out 5).trans rfl, (blk_cell BK180.out 6).trans rfl, (blk_cell BK180.out 7).trans rfl, (blk_cell BK180.out 8).trans rfl, (blk_cell BK180.out 9).trans rfl, (blk_cell BK180.out 10).trans rfl, (blk_cell BK180.out 11).trans rfl, (blk_cell BK180.out 12).trans rfl, (blk_cell BK180.out 13).trans rfl, (blk_cell BK180.out 14).trans rfl, (blk_cell BK180.out 15).trans rfl, (blk_cell BK180.out 16).trans rfl, (blk_cell BK180.out 17).trans rfl, (blk_cell BK180.out 18).trans rfl, (blk_cell BK180.out 19).trans rfl, (blk_cell BK180.out 20).trans rfl, (blk_cell BK180.out 21).trans rfl, (blk_cell BK180.out 22).trans rfl, (blk_cell BK180.out 23).trans rfl, (blk_cell BK180.out 24).trans rfl, (blk_cell BK180.out 25).trans rfl, (blk_cell BK180.out 26).trans rfl⟩ (fun hHeld => ?_); refine with_tabW view_regs.tab1 view_regs.bits1 (fun HT_ HW_ => ?_)
  generalize w11.drew = w12 at BK180 HB hHeld ⊢
  refine pure_ (i := 0) (N := some 3) (v := ?_) (a' := ?_) #[true, false, false, false, false, false, false, false, false, false, false, false, false, false, false, false, false, false, false, false, false, false, false, false, false, false, false, false, false, false, false, false, false] rfl rfl (any_of HT_.out (by kernel_rfl)) (fun _ _ _ h => h) (Or.inl ⟨by rfl, ?_⟩) ?_ ?_
  rotate_left
  · intro w'
    go_simp
    with_reducible rfl
  rotate_left
  · simp only [Act.put, List.setIfInBounds_toArray, List.set_cons_zero, List.set_cons_succ, i64_w, i32_w]
    rfl
  refine pure_ (i := 1) (N := some 4) (v := ?_) (a' := ?_) #[true, true, false, false, false, false, false, false, false, false, false, false, false, false, false, false, false, false, false, false, false, false, false, false, false, false, false, false, false, false, false, false, false] rfl rfl (any_of HT_.out (by kernel_rfl)) (fun _ _ _ h => h) (Or.inl ⟨by rfl, ?_⟩) ?_ ?_
  rotate_left
  · intro w'
    go_simp
    with_reducible rfl
  rotate_left
  · simp only [Act.put, List.setIfInBounds_toArray, List.set_cons_zero, List.set_cons_succ, i64_w, i32_w]
    rfl
  refine pure_ (i := 4) (N := some 7) (v := ?_) (a' := ?_) #[true, true, false, false, true, false, false, false, false, false, false, false, false, false, false, false, false, false, false, false, false, false, false, false, false, false, false, false, false, false, false, false, false] rfl rfl (any_of HT_.out (by kernel_rfl)) (fun _ _ _ h => h) (Or.inl ⟨by rfl, ?_⟩) ?_ ?_
  rotate_left
  · intro w'
    go_simp
    with_reducible rfl
  rotate_left
  · simp only [Act.put, List.setIfInBounds_toArray, List.set_cons_zero, List.set_cons_succ, i64_w, i32_w]
    rfl
  refine pure_ (i := 5) (N := some 8) (v := ?_) (a' := ?_) #[true, true, false, false, true, true, false, false, false, false, false, false, false, false, false, false, false, false, false, false, false, false, false, false, false, false, false, false, false, false, false, false, false] rfl rfl (any_of HT_.out (by kernel_rfl)) (fun _ _ _ h => h) (Or.inl ⟨by rfl, ?_⟩) ?_ ?_
  rotate_left
  · intro w'
    go_simp
    with_reducible rfl
  rotate_left
  · simp only [Act.put, List.setIfInBounds_toArray, List.set_cons_zero, List.set_cons_succ, i64_w, i32_w]
    rfl
  refine pure_ (i := 8) (N := some 11) (v := ?_) (a' := ?_) #[true, true, false, false, true, true, false, false, true, false, false, false, false, false, false, false, false, false, false, false, false, false, false, false, false, false, false, false, false, false, false, false, false] rfl rfl (any_of HT_.out (by kernel_rfl)) (fun _ _ _ h => h) (Or.inl ⟨by rfl, ?_⟩) ?_ ?_
  rotate_left
  · intro w'
    go_simp
    with_reducible rfl
  rotate_left
  · simp only [Act.put, List.setIfInBounds_toArray, List.set_cons_zero, List.set_cons_succ, i64_w, i32_w]
    rfl
  refine pure_ (i := 9) (N := some 12) (v := ?_) (a' := ?_) #[true, true, false, false, true, true, false, false, true, true, false, false, false, false, false, false, false, false, false, false, false, false, false, false, false, false, false, false, false, false, false, false, false] rfl rfl (any_of HT_.out (by kernel_rfl)) (fun _ _ _ h => h) (Or.inl ⟨by rfl, ?_⟩) ?_ ?_
  rotate_left
  · intro w'
    go_simp
    with_reducible rfl
  rotate_left
  · simp only [Act.put, List.setIfInBounds_toArray, List.set_cons_zero, List.set_cons_succ, i64_w, i32_w]
    rfl
  refine pure_ (i := 12) (N := some 15) (v := ?_) (a' := ?_) #[true, true, false, false, true, true, false, false, true, true, false, false, true, false, false, false, false, false, false, false, false, false, false, false, false, false, false, false, false, false, false, false, false] rfl rfl (any_of HT_.out (by kernel_rfl)) (fun _ _ _ h => h) (Or.inl ⟨by rfl, ?_⟩) ?_ ?_
  rotate_left
  · intro w'
    go_simp
    with_reducible rfl
  rotate_left
  · simp only [Act.put, List.setIfInBounds_toArray, List.set_cons_zero, List.set_cons_succ, i64_w, i32_w]
    rfl
  refine pure_ (i := 15) (N := some 18) (v := ?_) (a' := ?_) #[true, true, false, false, true, true, false, false, true, true, false, false, true, false, false, true, false, false, false, false, false, false, false, false, false, false, false, false, false, false, false, false, false] rfl rfl (any_of HT_.out (by kernel_rfl)) (fun _ _ _ h => h) (Or.inl ⟨by rfl, ?_⟩) ?_ ?_
  rotate_left
  · intro w'
    go_simp
    with_reducible rfl
  rotate_left
  · simp only [Act.put, List.setIfInBounds_toArray, List.set_cons_zero, List.set_cons_succ, i64_w, i32_w]
    rfl
  refine pure_ (i := 18) (N := some 21) (v := ?_) (a' := ?_) #[true, true, false, false, true, true, false, false, true, true, false, false, true, false, false, true, false, false, true, false, false, false, false, false, false, false, false, false, false, false, false, false, false] rfl rfl (any_of HT_.out (by kernel_rfl)) (fun _ _ _ h => h) (Or.inl ⟨by rfl, ?_⟩) ?_ ?_
  rotate_left
  · intro w'
    go_simp
    with_reducible rfl
  rotate_left
  · simp only [Act.put, List.setIfInBounds_toArray, List.set_cons_zero, List.set_cons_succ, i64_w, i32_w]
    rfl
  refine pure_ (i := 21) (N := some 24) (v := ?_) (a' := ?_) #[true, true, false, false, true, true, false, false, true, true, false, false, true, false, false, true, false, false, true, false, false, true, false, false, false, false, false, false, false, false, false, false, false] rfl rfl (any_of HT_.out (by kernel_rfl)) (fun _ _ _ h => h) (Or.inl ⟨by rfl, ?_⟩) ?_ ?_
  rotate_left
  · intro w'
    go_simp
    with_reducible rfl
  rotate_left
  · simp only [Act.put, List.setIfInBounds_toArray, List.set_cons_zero, List.set_cons_succ, i64_w, i32_w]
    rfl
  refine pure_ (i := 22) (N := some 25) (v := ?_) (a' := ?_) #[true, true, false, false, true, true, false, false, true, true, false, false, true, false, false, true, false, false, true, false, false, true, true, false, false, false, false, false, false, false, false, false, false] rfl rfl (any_of HT_.out (by kernel_rfl)) (fun _ _ _ h => h) (Or.inl ⟨by rfl, ?_⟩) ?_ ?_
  rotate_left
  · intro w'
    go_simp
    with_reducible rfl
  rotate_left
  · simp only [Act.put, List.setIfInBounds_toArray, List.set_cons_zero, List.set_cons_succ, i64_w, i32_w]
    rfl
  refine pure_ (i := 25) (N := some 28) (v := ?_) (a' := ?_) #[true, true, false, false, true, true, false, false, true, true, false, false, true, false, false, true, false, false, true, false, false, true, true, false, false, true, false, false, false, false, false, false, false] rfl rfl (any_of HT_.out (by kernel_rfl)) (fun _ _ _ h => h) (Or.inl ⟨by rfl, ?_⟩) ?_ ?_
  rotate_left
  · intro w'
    go_simp
    with_reducible rfl
  rotate_left
  · simp only [Act.put, List.setIfInBounds_toArray, List.set_cons_zero, List.set_cons_succ, i64_w, i32_w]
    rfl
  refine pure_ (i := 26) (N := some 29) (v := ?_) (a' := ?_) #[true, true, false, false, true, true, false, false, true, true, false, false, true, false, false, true, false, false, true, false, false, true, true, false, false, true, true, false, false, false, false, false, false] rfl rfl (any_of HT_.out (by kernel_rfl)) (fun _ _ _ h => h) (Or.inl ⟨by rfl, ?_⟩) ?_ ?_
  rotate_left
  · intro w'
    go_simp
    with_reducible rfl
  rotate_left
  · simp only [Act.put, List.setIfInBounds_toArray, List.set_cons_zero, List.set_cons_succ, i64_w, i32_w]
    rfl
  refine take_ (i := 2) (N := some 5) (v := ?_) (a' := ?_) #[true, true, true, false, true, true, false, false, true, true, false, false, true, false, false, true, false, false, true, false, false, true, true, false, false, true, true, false, false, false, false, false, false] rfl rfl (take_ofW HT_.out HW_.out (by kernel_rfl)) (fun _ _ _ h => h) (Or.inl ⟨by rfl, ?_⟩) hHeld ?_ ?_
  rotate_left
  · rintro w' ⟨s0, s1, s2, s3, s4, s5, s6, s7, s8, s9, s10, s11, s12, s13, s14, s15, s16, s17, s18, s19, s20, s21, s22, s23, s24, s25, s26⟩
    go_simp
    with_reducible rfl
  rotate_left
  · simp only [Act.put, List.setIfInBounds_toArray, List.set_cons_zero, List.set_cons_succ, i64_w, i32_w]
    rfl
  refine take_ (i := 6) (N := some 9) (v := ?_) (a' := ?_) #[true, true, true, false, true, true, true, false, true, true, false, false, true, false, false, true, false, false, true, false, false, true, true, false, false, true, true, false, false, false, false, false, false] rfl rfl (take_ofW HT_.out HW_.out (by kernel_rfl)) (fun _ _ _ h => h) (Or.inl ⟨by rfl, ?_⟩) hHeld ?_ ?_
  rotate_left
  · rintro w' ⟨s0, s1, s2, s3, s4, s5, s6, s7, s8, s9, s10, s11, s12, s13, s14, s15, s16, s17, s18, s19, s20, s21, s22, s23, s24, s25, s26⟩
    go_simp
    with_reducible rfl
  rotate_left
  · simp only [Act.put, List.setIfInBounds_toArray, List.set_cons_zero, List.set_cons_succ, i64_w, i32_w]
    rfl
  refine take_ (i := 10) (N := some 13) (v := ?_) (a' := ?_) #[true, true, true, false, true, true, true, false, true, true, true, false, true, false, false, true, false, false, true, false, false, true, true, false, false, true, true, false, false, false, false, false, false] rfl rfl (take_ofW HT_.out HW_.out (by kernel_rfl)) (fun _ _ _ h => h) (Or.inl ⟨by rfl, ?_⟩) hHeld ?_ ?_
  rotate_left
  · rintro w' ⟨s0, s1, s2, s3, s4, s5, s6, s7, s8, s9, s10, s11, s12, s13, s14, s15, s16, s17, s18, s19, s20, s21, s22, s23, s24, s25, s26⟩
    go_simp
    with_reducible rfl
  rotate_left
  · simp only [Act.put, List.setIfInBounds_toArray, List.set_cons_zero, List.set_cons_succ, i64_w, i32_w]
    rfl
  refine take_ (i := 13) (N := some 16) (v := ?_) (a' := ?_) #[true, true, true, false, true, true, true, false, true, true, true, false, true, true, false, true, false, false, true, false, false, true, true, false, false, true, true, false, false, false, false, false, false] rfl rfl (take_ofW HT_.out HW_.out (by kernel_rfl)) (fun _ _ _ h => h) (Or.inl ⟨by rfl, ?_⟩) hHeld ?_ ?_
  rotate_left
  · rintro w' ⟨s0, s1, s2, s3, s4, s5, s6, s7, s8, s9, s10, s11, s12, s13, s14, s15, s16, s17, s18, s19, s20, s21, s22, s23, s24, s25, s26⟩
    go_simp
    with_reducible rfl
  rotate_left
  · simp only [Act.put, List.setIfInBounds_toArray, List.set_cons_zero, List.set_cons_succ, i64_w, i32_w]
    rfl
  refine take_ (i := 16) (N := some 19) (v := ?_) (a' := ?_) #[true, true, true, false, true, true, true, false, true, true, true, false, true, true, false, true, true, false, true, false, false, true, true, false, false, true, true, false, false, false, false, false, false] rfl rfl (take_ofW HT_.out HW_.out (by kernel_rfl)) (fun _ _ _ h => h) (Or.inl ⟨by rfl, ?_⟩) hHeld ?_ ?_
  rotate_left
  · rintro w' ⟨s0, s1, s2, s3, s4, s5, s6, s7, s8, s9, s10, s11, s12, s13, s14, s15, s16, s17, s18, s19, s20, s21, s22, s23, s24, s25, s26⟩
    go_simp
    with_reducible rfl
  rotate_left
  · simp only [Act.put, List.setIfInBounds_toArray, List.set_cons_zero, List.set_cons_succ, i64_w, i32_w]
    rfl
  refine take_ (i := 19) (N := some 22) (v := ?_) (a' := ?_) #[true, true, true, false, true, true, true, false, true, true, true, false, true, true, false, true, true, false, true, true, false, true, true, false, false, true, true, false, false, false, false, false, false] rfl rfl (take_ofW HT_.out HW_.out (by kernel_rfl)) (fun _ _ _ h => h) (Or.inl ⟨by rfl, ?_⟩) hHeld ?_ ?_
  rotate_left
  · rintro w' ⟨s0, s1, s2, s3, s4, s5, s6, s7, s8, s9, s10, s11, s12, s13, s14, s15, s16, s17, s18, s19, s20, s21, s22, s23, s24, s25, s26⟩
    go_simp
    with_reducible rfl
  rotate_left
  · simp only [Act.put, List.setIfInBounds_toArray, List.set_cons_zero, List.set_cons_succ, i64_w, i32_w]
    rfl
  refine take_ (i := 23) (N := some 26) (v := ?_) (a' := ?_) #[true, true, true, false, true, true, true, false, true, true, true, false, true, true, false, true, true, false, true, true, false, true, true, true, false, true, true, false, false, false, false, false, false] rfl rfl (take_ofW HT_.out HW_.out (by kernel_rfl)) (fun _ _ _ h => h) (Or.inl ⟨by rfl, ?_⟩) hHeld ?_ ?_
  rotate_left
  · rintro w' ⟨s0, s1, s2, s3, s4, s5, s6, s7, s8, s9, s10, s11, s12, s13, s14, s15, s16, s17, s18, s19, s20, s21, s22, s23, s24, s25, s26⟩
    go_simp
    with_reducible rfl
  rotate_left
  · simp only [Act.put, List.setIfInBounds_toArray, List.set_cons_zero, List.set_cons_succ, i64_w, i32_w]
    rfl
  refine take_ (i := 27) (N := some 30) (v := ?_) (a' := ?_) #[true, true, true, false, true, true, true, false, true, true, true, false, true, true, false, true, true, false, true, true, false, true, true, true, false, true, true, true, false, false, false, false, false] rfl rfl (take_ofW HT_.out HW_.out (by kernel_rfl)) (fun _ _ _ h => h) (Or.inl ⟨by rfl, ?_⟩) hHeld ?_ ?_
  rotate_left
  · rintro w' ⟨s0, s1, s2, s3, s4, s5, s6, s7, s8, s9, s10, s11, s12, s13, s14, s15, s16, s17, s18, s19, s20, s21, s22, s23, s24, s25, s26⟩
    go_simp
    with_reducible rfl
  rotate_left
  · simp only [Act.put, List.setIfInBounds_toArray, List.set_cons_zero, List.set_cons_succ, i64_w, i32_w]
    rfl
  refine one_ (i := 3) (N := some 6) #[true, true, true, true, true, true, true, false, true, true, true, false, true, true, false, true, true, false, true, true, false, true, true, true, false, true, true, true, false, false, false, false, false] rfl rfl (one_of HT_.out (by kernel_rfl)) (by decide) (fun K hK => ?_)
  refine goes_ Tryd.func35 (by kernel_rfl) rfl #[.bool a0_2] (by rfl) rfl rfl (by (try simp only [List.map_toArray, List.map_cons, List.map_nil]); first | done | rfl | (simp only [List.length_drop, List.length_take]; rfl)) ?_
  with_reducible refine (view_bit.calls a0_2 t181 _ A2.out).mono ?_
  rintro e w' ⟨rfl, ⟨nd, rfl⟩⟩
  refine ⟨_, rfl, ?_⟩
  refine hK.out _ _ ⟨(blk_cell BK180.out 0).trans rfl, (blk_cell BK180.out 1).trans rfl, (blk_cell BK180.out 2).trans rfl, (blk_cell BK180.out 3).trans rfl, (blk_cell BK180.out 4).trans rfl, (blk_cell BK180.out 5).trans rfl, (blk_cell BK180.out 6).trans rfl, (blk_cell BK180.out 7).trans rfl, (blk_cell BK180.out 8).trans rfl, (blk_cell BK180.out 9).trans rfl, (blk_cell BK180.out 10).trans rfl, (blk_cell BK180.out 11).trans rfl, (blk_cell BK180.out 12).trans rfl, (blk_cell BK180.out 13).trans rfl, (blk_cell BK180.out 14).trans rfl, (blk_cell BK180.out 15).trans rfl, (blk_cell BK180.out 16).trans rfl, (blk_cell BK180.out 17).trans rfl, (blk_cell BK180.out 18).trans rfl, (blk_cell BK180.out 19).trans rfl, (blk_cell BK180.out 20).trans rfl, (blk_cell BK180.out 21).trans rfl, (blk_cell BK180.out 22).trans rfl, (blk_cell BK180.out 23).trans rfl, (blk_cell BK180.out 24).trans rfl, (blk_cell BK180.out 25).trans rfl, (blk_cell BK180.out 26).trans rfl⟩ (fun hHeld => ?_)
  clear hK K
  refine norm_ (a' := ?_) ?_ ?_
  rotate_left
  · show Act.put _ (some 6) _ = _
    simp only [Act.put, List.setIfInBounds_toArray, List.set_cons_zero, List.set_cons_succ, i64_w, i32_w]
    rfl
  refine one_ (i := 7) (N := some 10) #[true, true, true, true, true, true, true, true, true, true, true, false, true, true, false, true, true, false, true, true, false, true, true, true, false, true, true, true, false, false, false, false, false] rfl rfl (one_of HT_.out (by kernel_rfl)) (by decide) (fun K hK => ?_)
  refine goes_ Tryd.func35 (by kernel_rfl) rfl #[.bool a0_4] (by rfl) rfl rfl (by (try simp only [List.map_toArray, List.map_cons, List.map_nil]); first | done | rfl | (simp only [List.length_drop, List.length_take]; rfl)) ?_
  with_reducible refine (view_bit.calls a0_4 t182 _ A3.out).mono ?_
  rintro e w' ⟨rfl, ⟨nd, rfl⟩⟩
  refine ⟨_, rfl, ?_⟩
  refine hK.out _ _ ⟨(blk_cell BK180.out 0).trans rfl, (blk_cell BK180.out 1).trans rfl, (blk_cell BK180.out 2).trans rfl, (blk_cell BK180.out 3).trans rfl, (blk_cell BK180.out 4).trans rfl, (blk_cell BK180.out 5).trans rfl, (blk_cell BK180.out 6).trans rfl, (blk_cell BK180.out 7).trans rfl, (blk_cell BK180.out 8).trans rfl, (blk_cell BK180.out 9).trans rfl, (blk_cell BK180.out 10).trans rfl, (blk_cell BK180.out 11).trans rfl, (blk_cell BK180.out 12).trans rfl, (blk_cell BK180.out 13).trans rfl, (blk_cell BK180.out 14).trans rfl, (blk_cell BK180.out 15).trans rfl, (blk_cell BK180.out 16).trans rfl, (blk_cell BK180.out 17).trans rfl, (blk_cell BK180.out 18).trans rfl, (blk_cell BK180.out 19).trans rfl, (blk_cell BK180.out 20).trans rfl, (blk_cell BK180.out 21).trans rfl, (blk_cell BK180.out 22).trans rfl, (blk_cell BK180.out 23).trans rfl, (blk_cell BK180.out 24).trans rfl, (blk_cell BK180.out 25).trans rfl, (blk_cell BK180.out 26).trans rfl⟩ (fun hHeld => ?_)
  clear hK K
  refine norm_ (a' := ?_) ?_ ?_
  rotate_left
  · show Act.put _ (some 10) _ = _
    simp only [Act.put, List.setIfInBounds_toArray, List.set_cons_zero, List.set_cons_succ, i64_w, i32_w]
    rfl
  refine one_ (i := 11) (N := some 14) #[true, true, true, true, true, true, true, true, true, true, true, true, true, true, false, true, true, false, true, true, false, true, true, true, false, true, true, true, false, false, false, false, false] rfl rfl (one_of HT_.out (by kernel_rfl)) (by decide) (fun K hK => ?_)
  refine goes_ Tryd.func13 (by kernel_rfl) rfl #[.int .i64 a0_5] (by rfl) rfl rfl (by (try simp only [List.map_toArray, List.map_cons, List.map_nil]); first | done | rfl | (simp only [List.length_drop, List.length_take]; rfl)) ?_
  with_reducible refine (digit_Text.calls a0_5 t183 _ (TW0_.out.below (by repeat (first | (with_reducible first | exact HB.out | apply below_alloc | apply pw_below_drewN | apply below_drew1 | refine below_set ?_ GE180.out) | exact HB.out))) A4.out).mono ?_
  rintro e w13 ⟨rfl, hb⟩
  refine ⟨_, rfl, ?_⟩
  have n0_ := Aside0.mk (blk_below (g := gb180) (o := .cells #[.slice A0_0 l0_0.length c0_0, .slice A0_1 l0_1.length c0_1, .bool a0_2, .int .i64 a0_3, .bool a0_4, .int .i64 a0_5, .int .i64 a0_6, .int .i64 a0_7, .int .i64 a0_8, .int .i64 a0_9, .slice A0_10 l0_10.length c0_10, .slice A0_11 l0_11.length c0_11, .bool a0_12, .slice A0_13 l0_13.length c0_13, .bool a0_14, .int .i64 a0_15, .int .i64 a0_16, .int .i64 a0_17, .int .i64 a0_18, .int .i64 a0_19, .bool a0_20, .bool a0_21, .bool a0_22, .slice A0_23 l0_23.length c0_23, .slice A0_24 l0_24.length c0_24, .slice A0_25 l0_25.length c0_25, .slice A0_26 l0_26.length c0_26] 34 (0, 0)) (by (with_reducible repeat (first | refine blk_drewN ?_ _ | refine blk_drew ?_ | refine blk_alloc ?_ _)); exact BK180.out) hb)
  have n1_ := Aside0.mk (below_step (by repeat (first | (with_reducible first | exact HB.out | apply below_alloc | apply pw_below_drewN | apply below_drew1 | refine below_set ?_ GE180.out) | exact HB.out)) hb)
  clear BK180
  clear HB
  have BK180 := n0_
  have HB := n1_
  clear n0_ n1_
  (try clear hb)
  (try clear hb2)
  (try clear hk)
  (try clear hi)
  refine hK.out _ _ ⟨(blk_cell BK180.out 0).trans rfl, (blk_cell BK180.out 1).trans rfl, (blk_cell BK180.out 2).trans rfl, (blk_cell BK180.out 3).trans rfl, (blk_cell BK180.out 4).trans rfl, (blk_cell BK180.out 5).trans rfl, (blk_cell BK180.out 6).trans rfl, (blk_cell BK180.out 7).trans rfl, (blk_cell BK180.out 8).trans rfl, (blk_cell BK180.out 9).trans rfl, (blk_cell BK180.out 10).trans rfl, (blk_cell BK180.out 11).trans rfl, (blk_cell BK180.out 12).trans rfl, (blk_cell BK180.out 13).trans rfl, (blk_cell BK180.out 14).trans rfl, (blk_cell BK180.out 15).trans rfl, (blk_cell BK180.out 16).trans rfl, (blk_cell BK180.out 17).trans rfl, (blk_cell BK180.out 18).trans rfl, (blk_cell BK180.out 19).trans rfl, (blk_cell BK180.out 20).trans rfl, (blk_cell BK180.out 21).trans rfl, (blk_cell BK180.out 22).trans rfl, (blk_cell BK180.out 23).trans rfl, (blk_cell BK180.out 24).trans rfl, (blk_cell BK180.out 25).trans rfl, (blk_cell BK180.out 26).trans rfl⟩ (fun hHeld => ?_)
  clear hK K
  refine norm_ (a' := ?_) ?_ ?_
  rotate_left
  · show Act.put _ (some 14) _ = _
    simp only [Act.put, List.setIfInBounds_toArray, List.set_cons_zero, List.set_cons_succ, i64_w, i32_w]
    rfl
  refine one_ (i := 14) (N := some 17) #[true, true, true, true, true, true, true, true, true, true, true, true, true, true, true, true, true, false, true, true, false, true, true, true, false, true, true, true, false, false, false, false, false] rfl rfl (one_of HT_.out (by kernel_rfl)) (by decide) (fun K hK => ?_)
  refine goes_ Tryd.func35 (by kernel_rfl) rfl #[.bool a0_20] (by rfl) rfl rfl (by (try simp only [List.map_toArray, List.map_cons, List.map_nil]); first | done | rfl | (simp only [List.length_drop, List.length_take]; rfl)) ?_
  with_reducible refine (view_bit.calls a0_20 t184 _ A5.out).mono ?_
  rintro e w' ⟨rfl, ⟨nd, rfl⟩⟩
  refine ⟨_, rfl, ?_⟩
  refine hK.out _ _ ⟨(blk_cell BK180.out 0).trans rfl, (blk_cell BK180.out 1).trans rfl, (blk_cell BK180.out 2).trans rfl, (blk_cell BK180.out 3).trans rfl, (blk_cell BK180.out 4).trans rfl, (blk_cell BK180.out 5).trans rfl, (blk_cell BK180.out 6).trans rfl, (blk_cell BK180.out 7).trans rfl, (blk_cell BK180.out 8).trans rfl, (blk_cell BK180.out 9).trans rfl, (blk_cell BK180.out 10).trans rfl, (blk_cell BK180.out 11).trans rfl, (blk_cell BK180.out 12).trans rfl, (blk_cell BK180.out 13).trans rfl, (blk_cell BK180.out 14).trans rfl, (blk_cell BK180.out 15).trans rfl, (blk_cell BK180.out 16).trans rfl, (blk_cell BK180.out 17).trans rfl, (blk_cell BK180.out 18).trans rfl, (blk_cell BK180.out 19).trans rfl, (blk_cell BK180.out 20).trans rfl, (blk_cell BK180.out 21).trans rfl, (blk_cell BK180.out 22).trans rfl, (blk_cell BK180.out 23).trans rfl, (blk_cell BK180.out 24).trans rfl, (blk_cell BK180.out 25).trans rfl, (blk_cell BK180.out 26).trans rfl⟩ (fun hHeld => ?_)
  clear hK K
  refine norm_ (a' := ?_) ?_ ?_
  rotate_left
  · show Act.put _ (some 17) _ = _
    simp only [Act.put, List.setIfInBounds_toArray, List.set_cons_zero, List.set_cons_succ, i64_w, i32_w]
    rfl
  refine one_ (i := 17) (N := some 20) #[true, true, true, true, true, true, true, true, true, true, true, true, true, true, true, true, true, true, true, true, false, true, true, true, false, true, true, true, false, false, false, false, false] rfl rfl (one_of HT_.out (by kernel_rfl)) (by decide) (fun K hK => ?_)
  refine goes_ Tryd.func35 (by kernel_rfl) rfl #[.bool a0_21] (by rfl) rfl rfl (by (try simp only [List.map_toArray, List.map_cons, List.map_nil]); first | done | rfl | (simp only [List.length_drop, List.length_take]; rfl)) ?_
  with_reducible refine (view_bit.calls a0_21 t185 _ A6.out).mono ?_
  rintro e w' ⟨rfl, ⟨nd, rfl⟩⟩
  refine ⟨_, rfl, ?_⟩
  refine hK.out _ _ ⟨(blk_cell BK180.out 0).trans rfl, (blk_cell BK180.out 1).trans rfl, (blk_cell BK180.out 2).trans rfl, (blk_cell BK180.out 3).trans rfl, (blk_cell BK180.out 4).trans rfl, (blk_cell BK180.out 5).trans rfl, (blk_cell BK180.out 6).trans rfl, (blk_cell BK180.out 7).trans rfl, (blk_cell BK180.out 8).trans rfl, (blk_cell BK180.out 9).trans rfl, (blk_cell BK180.out 10).trans rfl, (blk_cell BK180.out 11).trans rfl, (blk_cell BK180.out 12).trans rfl, (blk_cell BK180.out 13).trans rfl, (blk_cell BK180.out 14).trans rfl, (blk_cell BK180.out 15).trans rfl, (blk_cell BK180.out 16).trans rfl, (blk_cell BK180.out 17).trans rfl, (blk_cell BK180.out 18).trans rfl, (blk_cell BK180.out 19).trans rfl, (blk_cell BK180.out 20).trans rfl, (blk_cell BK180.out 21).trans rfl, (blk_cell BK180.out 22).trans rfl, (blk_cell BK180.out 23).trans rfl, (blk_cell BK180.out 24).trans rfl, (blk_cell BK180.out 25).trans rfl, (blk_cell BK180.out 26).trans rfl⟩ (fun hHeld => ?_)
  clear hK K
  refine norm_ (a' := ?_) ?_ ?_
  rotate_left
  · show Act.put _ (some 20) _ = _
    simp only [Act.put, List.setIfInBounds_toArray, List.set_cons_zero, List.set_cons_succ, i64_w, i32_w]
    rfl
  refine one_ (i := 20) (N := some 23) #[true, true, true, true, true, true, true, true, true, true, true, true, true, true, true, true, true, true, true, true, true, true, true, true, false, true, true, true, false, false, false, false, false] rfl rfl (one_of HT_.out (by kernel_rfl)) (by decide) (fun K hK => ?_)
  refine goes_ Tryd.func35 (by kernel_rfl) rfl #[.bool a0_22] (by rfl) rfl rfl (by (try simp only [List.map_toArray, List.map_cons, List.map_nil]); first | done | rfl | (simp only [List.length_drop, List.length_take]; rfl)) ?_
  with_reducible refine (view_bit.calls a0_22 t186 _ A7.out).mono ?_
  rintro e w' ⟨rfl, ⟨nd, rfl⟩⟩
  refine ⟨_, rfl, ?_⟩
  refine hK.out _ _ ⟨(blk_cell BK180.out 0).trans rfl, (blk_cell BK180.out 1).trans rfl, (blk_cell BK180.out 2).trans rfl, (blk_cell BK180.out 3).trans rfl, (blk_cell BK180.out 4).trans rfl, (blk_cell BK180.out 5).trans rfl, (blk_cell BK180.out 6).trans rfl, (blk_cell BK180.out 7).trans rfl, (blk_cell BK180.out 8).trans rfl, (blk_cell BK180.out 9).trans rfl, (blk_cell BK180.out 10).trans rfl, (blk_cell BK180.out 11).trans rfl, (blk_cell BK180.out 12).trans rfl, (blk_cell BK180.out 13).trans rfl, (blk_cell BK180.out 14).trans rfl, (blk_cell BK180.out 15).trans rfl, (blk_cell BK180.out 16).trans rfl, (blk_cell BK180.out 17).trans rfl, (blk_cell BK180.out 18).trans rfl, (blk_cell BK180.out 19).trans rfl, (blk_cell BK180.out 20).trans rfl, (blk_cell BK180.out 21).trans rfl, (blk_cell BK180.out 22).trans rfl, (blk_cell BK180.out 23).trans rfl, (blk_cell BK180.out 24).trans rfl, (blk_cell BK180.out 25).trans rfl, (blk_cell BK180.out 26).trans rfl⟩ (fun hHeld => ?_)
  clear hK K
  refine norm_ (a' := ?_) ?_ ?_
  rotate_left
  · show Act.put _ (some 23) _ = _
    simp only [Act.put, List.setIfInBounds_toArray, List.set_cons_zero, List.set_cons_succ, i64_w, i32_w]
    rfl
  refine one_ (i := 24) (N := some 27) #[true, true, true, true, true, true, true, true, true, true, true, true, true, true, true, true, true, true, true, true, true, true, true, true, true, true, true, true, false, false, false, false, false] rfl rfl (one_of HT_.out (by kernel_rfl)) (by decide) (fun K hK => ?_)
  refine goes_ Tryd.func13 (by kernel_rfl) rfl #[.int .i64 a0_8] (by rfl) rfl rfl (by (try simp only [List.map_toArray, List.map_cons, List.map_nil]); first | done | rfl | (simp only [List.length_drop, List.length_take]; rfl)) ?_
  with_reducible refine (digit_Text.calls a0_8 t187 _ (TW0_.out.below (by repeat (first | (with_reducible first | exact HB.out | apply below_alloc | apply pw_below_drewN | apply below_drew1 | refine below_set ?_ GE180.out) | exact HB.out))) A8.out).mono ?_
  rintro e w14 ⟨rfl, hb⟩
  refine ⟨_, rfl, ?_⟩
  have n0_ := Aside0.mk (blk_below (g := gb180) (o := .cells #[.slice A0_0 l0_0.length c0_0, .slice A0_1 l0_1.length c0_1, .bool a0_2, .int .i64 a0_3, .bool a0_4, .int .i64 a0_5, .int .i64 a0_6, .int .i64 a0_7, .int .i64 a0_8, .int .i64 a0_9, .slice A0_10 l0_10.length c0_10, .slice A0_11 l0_11.length c0_11, .bool a0_12, .slice A0_13 l0_13.length c0_13, .bool a0_14, .int .i64 a0_15, .int .i64 a0_16, .int .i64 a0_17, .int .i64 a0_18, .int .i64 a0_19, .bool a0_20, .bool a0_21, .bool a0_22, .slice A0_23 l0_23.length c0_23, .slice A0_24 l0_24.length c0_24, .slice A0_25 l0_25.length c0_25, .slice A0_26 l0_26.length c0_26] 34 (0, 0)) (by (with_reducible repeat (first | refine blk_drewN ?_ _ | refine blk_drew ?_ | refine blk_alloc ?_ _)); exact BK180.out) hb)
  have n1_ := Aside0.mk (below_step (by repeat (first | (with_reducible first | exact HB.out | apply below_alloc | apply pw_below_drewN | apply below_drew1 | refine below_set ?_ GE180.out) | exact HB.out)) hb)
  clear BK180
  clear HB
  have BK180 := n0_
  have HB := n1_
  clear n0_ n1_
  (try clear hb)
  (try clear hb2)
  (try clear hk)
  (try clear hi)
  refine hK.out _ _ ⟨(blk_cell BK180.out 0).trans rfl, (blk_cell BK180.out 1).trans rfl, (blk_cell BK180.out 2).trans rfl, (blk_cell BK180.out 3).trans rfl, (blk_cell BK180.out 4).trans rfl, (blk_cell BK180.out 5).trans rfl, (blk_cell BK180.out 6).trans rfl, (blk_cell BK180.out 7).trans rfl, (blk_cell BK180.out 8).trans rfl, (blk_cell BK180.out 9).trans rfl, (blk_cell BK180.out 10).trans rfl, (blk_cell BK180.out 11).trans rfl, (blk_cell BK180.out 12).trans rfl, (blk_cell BK180.out 13).trans rfl, (blk_cell BK180.out 14).trans rfl, (blk_cell BK180.out 15).trans rfl, (blk_cell BK180.out 16).trans rfl, (blk_cell BK180.out 17).trans rfl, (blk_cell BK180.out 18).trans rfl, (blk_cell BK180.out 19).trans rfl, (blk_cell BK180.out 20).trans rfl, (blk_cell BK180.out 21).trans rfl, (blk_cell BK180.out 22).trans rfl, (blk_cell BK180.out 23).trans rfl, (blk_cell BK180.out 24).trans rfl, (blk_cell BK180.out 25).trans rfl, (blk_cell BK180.out 26).trans rfl⟩ (fun hHeld => ?_)
  clear hK K
  refine norm_ (a' := ?_) ?_ ?_
  rotate_left
  · show Act.put _ (some 27) _ = _
    simp only [Act.put, List.setIfInBounds_toArray, List.set_cons_zero, List.set_cons_succ, i64_w, i32_w]
    rfl
  refine one_ (i := 28) (N := some 31) #[true, true, true, true, true, true, true, true, true, true, true, true, true, true, true, true, true, true, true, true, true, true, true, true, true, true, true, true, true, false, false, false, false] rfl rfl (one_of HT_.out (by kernel_rfl)) (by decide) (fun K hK => ?_)
  refine goes_ Tryd.func13 (by kernel_rfl) rfl #[.int .i64 a0_9] (by rfl) rfl rfl (by (try simp only [List.map_toArray, List.map_cons, List.map_nil]); first | done | rfl | (simp only [List.length_drop, List.length_take]; rfl)) ?_
  with_reducible refine (digit_Text.calls a0_9 t188 _ (TW0_.out.below (by repeat (first | (with_reducible first | exact HB.out | apply below_alloc | apply pw_below_drewN | apply below_drew1 | refine below_set ?_ GE180.out) | exact HB.out))) A9.out).mono ?_
  rintro e w15 ⟨rfl, hb⟩
  refine ⟨_, rfl, ?_⟩
  have n0_ := Aside0.mk (blk_below (g := gb180) (o := .cells #[.slice A0_0 l0_0.length c0_0, .slice A0_1 l0_1.length c0_1, .bool a0_2, .int .i64 a0_3, .bool a0_4, .int .i64 a0_5, .int .i64 a0_6, .int .i64 a0_7, .int .i64 a0_8, .int .i64 a0_9, .slice A0_10 l0_10.length c0_10, .slice A0_11 l0_11.length c0_11, .bool a0_12, .slice A0_13 l0_13.length c0_13, .bool a0_14, .int .i64 a0_15, .int .i64 a0_16, .int .i64 a0_17, .int .i64 a0_18, .int .i64 a0_19, .bool a0_20, .bool a0_21, .bool a0_22, .slice A0_23 l0_23.length c0_23, .slice A0_24 l0_24.length c0_24, .slice A0_25 l0_25.length c0_25, .slice A0_26 l0_26.length c0_26] 34 (0, 0)) (by (with_reducible repeat (first | refine blk_drewN ?_ _ | refine blk_drew ?_ | refine blk_alloc ?_ _)); exact BK180.out) hb)
  have n1_ := Aside0.mk (below_step (by repeat (first | (with_reducible first | exact HB.out | apply below_alloc | apply pw_below_drewN | apply below_drew1 | refine below_set ?_ GE180.out) | exact HB.out)) hb)
  clear BK180
  clear HB
  have BK180 := n0_
  have HB := n1_
  clear n0_ n1_
  (try clear hb)
  (try clear hb2)
  (try clear hk)
  (try clear hi)
  refine hK.out _ _ ⟨(blk_cell BK180.out 0).trans rfl, (blk_cell BK180.out 1).trans rfl, (blk_cell BK180.out 2).trans rfl, (blk_cell BK180.out 3).trans rfl, (blk_cell BK180.out 4).trans rfl, (blk_cell BK180.out 5).trans rfl, (blk_cell BK180.out 6).trans rfl, (blk_cell BK180.out 7).trans rfl, (blk_cell BK180.out 8).trans rfl, (blk_cell BK180.out 9).trans rfl, (blk_cell BK180.out 10).trans rfl, (blk_cell BK180.out 11).trans rfl, (blk_cell BK180.out 12).trans rfl, (blk_cell BK180.out 13).trans rfl, (blk_cell BK180.out 14).trans rfl, (blk_cell BK180.out 15).trans rfl, (blk_cell BK180.out 16).trans rfl, (blk_cell BK180.out 17).trans rfl, (blk_cell BK180.out 18).trans rfl, (blk_cell BK180.out 19).trans rfl, (blk_cell BK180.out 20).trans rfl, (blk_cell BK180.out 21).trans rfl, (blk_cell BK180.out 22).trans rfl, (blk_cell BK180.out 23).trans rfl, (blk_cell BK180.out 24).trans rfl, (blk_cell BK180.out 25).trans rfl, (blk_cell BK180.out 26).trans rfl⟩ (fun hHeld => ?_)
  clear hK K
  refine norm_ (a' := ?_) ?_ ?_
  rotate_left
  · show Act.put _ (some 31) _ = _
    simp only [Act.put, List.setIfInBounds_toArray, List.set_cons_zero, List.set_cons_succ, i64_w, i32_w]
    rfl
  refine one_ (i := 29) (N := some 32) #[true, true, true, true, true, true, true, true, true, true, true, true, true, true, true, true, true, true, true, true, true, true, true, true, true, true, true, true, true, true, false, false, false] rfl rfl (one_of HT_.out (by kernel_rfl)) (by decide) (fun K hK => ?_)
  refine Kd.R_lit_step Kd.string _ 9 ?hg (N := 32) ?hd (xs := ([(⟨#[110, 108]⟩ : ByteArray), t181, (⟨#[115, 117, 98, 115, 116]⟩ : ByteArray), t182, (⟨#[108, 97, 115, 116]⟩ : ByteArray), t183, (⟨#[115, 105, 108, 101, 110, 116]⟩ : ByteArray), t184, (⟨#[113, 117, 105, 116]⟩ : ByteArray), t185, (⟨#[97, 103, 97, 105, 110]⟩ : ByteArray), t186, (⟨#[99, 117, 114]⟩ : ByteArray), t187, (⟨#[109, 105, 115, 115, 105, 110, 103]⟩ : ByteArray), t188] : List ByteArray)) (inner := [.string (⟨#[110, 108]⟩ : ByteArray), .string t181, .string (⟨#[115, 117, 98, 115, 116]⟩ : ByteArray), .string t182, .string (⟨#[108, 97, 115, 116]⟩ : ByteArray), .string t183, .string (⟨#[115, 105, 108, 101, 110, 116]⟩ : ByteArray), .string t184, .string (⟨#[113, 117, 105, 116]⟩ : ByteArray), .string t185, .string (⟨#[97, 103, 97, 105, 110]⟩ : ByteArray), .string t186, .string (⟨#[99, 117, 114]⟩ : ByteArray), .string t187, .string (⟨#[109, 105, 115, 115, 105, 110, 103]⟩ : ByteArray), .string t188]) (ok := fun _ => True) (okp := fun _ => True) ?hr ?hp (fun _ hk => hk) trivial (Below.refl _ _) (Nat.le_refl _) (by simp) ?_; (case hd => rfl); (case hg => rfl); (case hr => first | (go_simp; done) | (go_simp; rfl)); (case hp => exact (Reps.one (show Kd.M Kd.string _ _ _ (⟨#[110, 108]⟩ : ByteArray) [.string (⟨#[110, 108]⟩ : ByteArray)] from rfl) (Reps.one (show Kd.M Kd.string _ _ _ t181 [.string t181] from rfl) (Reps.one (show Kd.M Kd.string _ _ _ (⟨#[115, 117, 98, 115, 116]⟩ : ByteArray) [.string (⟨#[115, 117, 98, 115, 116]⟩ : ByteArray)] from rfl) (Reps.one (show Kd.M Kd.string _ _ _ t182 [.string t182] from rfl) (Reps.one (show Kd.M Kd.string _ _ _ (⟨#[108, 97, 115, 116]⟩ : ByteArray) [.string (⟨#[108, 97, 115, 116]⟩ : ByteArray)] from rfl) (Reps.one (show Kd.M Kd.string _ _ _ t183 [.string t183] from rfl) (Reps.one (show Kd.M Kd.string _ _ _ (⟨#[115, 105, 108, 101, 110, 116]⟩ : ByteArray) [.string (⟨#[115, 105, 108, 101, 110, 116]⟩ : ByteArray)] from rfl) (Reps.one (show Kd.M Kd.string _ _ _ t184 [.string t184] from rfl) (Reps.one (show Kd.M Kd.string _ _ _ (⟨#[113, 117, 105, 116]⟩ : ByteArray) [.string (⟨#[113, 117, 105, 116]⟩ : ByteArray)] from rfl) (Reps.one (show Kd.M Kd.string _ _ _ t185 [.string t185] from rfl) (Reps.one (show Kd.M Kd.string _ _ _ (⟨#[97, 103, 97, 105, 110]⟩ : ByteArray) [.string (⟨#[97, 103, 97, 105, 110]⟩ : ByteArray)] from rfl) (Reps.one (show Kd.M Kd.string _ _ _ t186 [.string t186] from rfl) (Reps.one (show Kd.M Kd.string _ _ _ (⟨#[99, 117, 114]⟩ : ByteArray) [.string (⟨#[99, 117, 114]⟩ : ByteArray)] from rfl) (Reps.one (show Kd.M Kd.string _ _ _ t187 [.string t187] from rfl) (Reps.one (show Kd.M Kd.string _ _ _ (⟨#[109, 105, 115, 115, 105, 110, 103]⟩ : ByteArray) [.string (⟨#[109, 105, 115, 115, 105, 110, 103]⟩ : ByteArray)] from rfl) (Reps.one (show Kd.M Kd.string _ _ _ t188 [.string t188] from rfl) (Reps.none _ _))))))))))))))))))
  intro v190 w16 ho17 hb hg_ hnew_
  clear hg_ hnew_
  (first | rw [← Ny189.out] at ho17 | (simp only [Int.reduceToNat] at ho17; rw [← Ny189.out] at ho17))
  have n0_ := Aside0.mk (Kd.R_lower ho17 (below_size (by repeat (first | (with_reducible first | exact HB.out | apply below_alloc | apply pw_below_drewN | apply below_drew1 | refine below_set ?_ GE180.out) | exact HB.out))))
  have n1_ := Aside0.mk (blk_below (g := gb180) (o := .cells #[.slice A0_0 l0_0.length c0_0, .slice A0_1 l0_1.length c0_1, .bool a0_2, .int .i64 a0_3, .bool a0_4, .int .i64 a0_5, .int .i64 a0_6, .int .i64 a0_7, .int .i64 a0_8, .int .i64 a0_9, .slice A0_10 l0_10.length c0_10, .slice A0_11 l0_11.length c0_11, .bool a0_12, .slice A0_13 l0_13.length c0_13, .bool a0_14, .int .i64 a0_15, .int .i64 a0_16, .int .i64 a0_17, .int .i64 a0_18, .int .i64 a0_19, .bool a0_20, .bool a0_21, .bool a0_22, .slice A0_23 l0_23.length c0_23, .slice A0_24 l0_24.length c0_24, .slice A0_25 l0_25.length c0_25, .slice A0_26 l0_26.length c0_26] 34 (0, 0)) (by (with_reducible repeat (first | refine blk_drewN ?_ _ | refine blk_drew ?_ | refine blk_alloc ?_ _)); exact BK180.out) hb)
  have n2_ := Aside0.mk (below_step (by repeat (first | (with_reducible first | exact HB.out | apply below_alloc | apply pw_below_drewN | apply below_drew1 | refine below_set ?_ GE180.out) | exact HB.out)) hb)
  clear BK180
  clear HB
  have HO191 := n0_
  have BK180 := n1_
  have HB := n2_
  clear n0_ n1_ n2_
  clear hb ho17
  obtain ⟨Ao18, co18, eo18⟩ := Kd.R_slice HO191.out
  (first | subst eo18 | (injection eo18 with f1_ f2_ f3_; have f4_ := f1_.symm; have f5_ := f3_.symm; clear f1_ f2_ f3_; subst f4_; subst f5_))
  refine hK.out _ _ ⟨(blk_cell BK180.out 0).trans rfl, (blk_cell BK180.out 1).trans rfl, (blk_cell BK180.out 2).trans rfl, (blk_cell BK180.out 3).trans rfl, (blk_cell BK180.out 4).trans rfl, (blk_cell BK180.out 5).trans rfl, (blk_cell BK180.out 6).trans rfl, (blk_cell BK180.out 7).trans rfl, (blk_cell BK180.out 8).trans rfl, (blk_cell BK180.out 9).trans rfl, (blk_cell BK180.out 10).trans rfl, (blk_cell BK180.out 11).trans rfl, (blk_cell BK180.out 12).trans rfl, (blk_cell BK180.out 13).trans rfl, (blk_cell BK180.out 14).trans rfl, (blk_cell BK180.out 15).trans rfl, (blk_cell BK180.out 16).trans rfl, (blk_cell BK180.out 17).trans rfl, (blk_cell BK180.out 18).trans rfl, (blk_cell BK180.out 19).trans rfl, (blk_cell BK180.out 20).trans rfl, (blk_cell BK180.out 21).trans rfl, (blk_cell BK180.out 22).trans rfl, (blk_cell BK180.out 23).trans rfl, (blk_cell BK180.out 24).trans rfl, (blk_cell BK180.out 25).trans rfl, (blk_cell BK180.out 26).trans rfl⟩ (fun hHeld => ?_)
  clear hK K
  refine norm_ (a' := ?_) ?_ ?_
  rotate_left
  · show Act.put _ (some 32) _ = _
    simp only [Act.put, List.setIfInBounds_toArray, List.set_cons_zero, List.set_cons_succ, i64_w, i32_w]
    rfl
  refine one_ (i := 30) (N := some 33) #[true, true, true, true, true, true, true, true, true, true, true, true, true, true, true, true, true, true, true, true, true, true, true, true, true, true, true, true, true, true, true, false, false] rfl rfl (one_of HT_.out (by kernel_rfl)) (by decide) (fun K hK => ?_)
  refine goes_ Tryd.func15 (by kernel_rfl) rfl #[.slice Ao18 y189.length co18] (by rfl) rfl rfl (by (try simp only [List.map_toArray, List.map_cons, List.map_nil]); first | done | rfl | (simp only [List.length_drop, List.length_take]; rfl)) ?_
  with_reducible refine (show_Row.calls _ _ y189 t192 _ ?side1 ?side2 A10.out).mono ?_
  (case side1 => repeat (first | exact (Kd.R_reads' HO191.out).2.2 | (with_reducible refine Kd.C_alloc ?_ _) | (with_reducible refine Kd.C_drewN ?_ _) | (with_reducible refine Kd.C_drew ?_)))
  (case side2 => exact (Kd.R_reads' HO191.out).2.1)
  rintro e w19 ⟨rfl, hb⟩
  refine ⟨_, rfl, ?_⟩
  have n0_ := Aside0.mk (Kd.R_below (by (with_reducible repeat (first | apply Kd.R_alloc | apply Kd.R_drewN | apply Kd.R_drew)); exact HO191.out) hb)
  have n1_ := Aside0.mk (blk_below (g := gb180) (o := .cells #[.slice A0_0 l0_0.length c0_0, .slice A0_1 l0_1.length c0_1, .bool a0_2, .int .i64 a0_3, .bool a0_4, .int .i64 a0_5, .int .i64 a0_6, .int .i64 a0_7, .int .i64 a0_8, .int .i64 a0_9, .slice A0_10 l0_10.length c0_10, .slice A0_11 l0_11.length c0_11, .bool a0_12, .slice A0_13 l0_13.length c0_13, .bool a0_14, .int .i64 a0_15, .int .i64 a0_16, .int .i64 a0_17, .int .i64 a0_18, .int .i64 a0_19, .bool a0_20, .bool a0_21, .bool a0_22, .slice A0_23 l0_23.length c0_23, .slice A0_24 l0_24.length c0_24, .slice A0_25 l0_25.length c0_25, .slice A0_26 l0_26.length c0_26] 34 (0, 0)) (by (with_reducible repeat (first | refine blk_drewN ?_ _ | refine blk_drew ?_ | refine blk_alloc ?_ _)); exact BK180.out) hb)
  have n2_ := Aside0.mk (below_step (by repeat (first | (with_reducible first | exact HB.out | apply below_alloc | apply pw_below_drewN | apply below_drew1 | refine below_set ?_ GE180.out) | exact HB.out)) hb)
  clear HO191
  clear BK180
  clear HB
  have HO191 := n0_
  have BK180 := n1_
  have HB := n2_
  clear n0_ n1_ n2_
  (try clear hb)
  (try clear hb2)
  (try clear hk)
  (try clear hi)
  refine hK.out _ _ ⟨(blk_cell BK180.out 0).trans rfl, (blk_cell BK180.out 1).trans rfl, (blk_cell BK180.out 2).trans rfl, (blk_cell BK180.out 3).trans rfl, (blk_cell BK180.out 4).trans rfl, (blk_cell BK180.out 5).trans rfl, (blk_cell BK180.out 6).trans rfl, (blk_cell BK180.out 7).trans rfl, (blk_cell BK180.out 8).trans rfl, (blk_cell BK180.out 9).trans rfl, (blk_cell BK180.out 10).trans rfl, (blk_cell BK180.out 11).trans rfl, (blk_cell BK180.out 12).trans rfl, (blk_cell BK180.out 13).trans rfl, (blk_cell BK180.out 14).trans rfl, (blk_cell BK180.out 15).trans rfl, (blk_cell BK180.out 16).trans rfl, (blk_cell BK180.out 17).trans rfl, (blk_cell BK180.out 18).trans rfl, (blk_cell BK180.out 19).trans rfl, (blk_cell BK180.out 20).trans rfl, (blk_cell BK180.out 21).trans rfl, (blk_cell BK180.out 22).trans rfl, (blk_cell BK180.out 23).trans rfl, (blk_cell BK180.out 24).trans rfl, (blk_cell BK180.out 25).trans rfl, (blk_cell BK180.out 26).trans rfl⟩ (fun hHeld => ?_)
  clear hK K
  refine norm_ (a' := ?_) ?_ ?_
  rotate_left
  · show Act.put _ (some 33) _ = _
    simp only [Act.put, List.setIfInBounds_toArray, List.set_cons_zero, List.set_cons_succ, i64_w, i32_w]
    rfl
  refine one_ (i := 31) (N := some 34) #[true, true, true, true, true, true, true, true, true, true, true, true, true, true, true, true, true, true, true, true, true, true, true, true, true, true, true, true, true, true, true, true, false] rfl rfl (one_of HT_.out (by kernel_rfl)) (by decide) (fun K hK => ?_)
  refine Kd.R_lit_step Kd.string _ 9 ?hg (N := 34) ?hd (xs := ([t192] : List ByteArray)) (inner := [.string t192]) (ok := fun _ => True) (okp := fun _ => True) ?hr ?hp (fun _ hk => hk) trivial (Below.refl _ _) (Nat.le_refl _) (by simp) ?_; (case hd => rfl); (case hg => rfl); (case hr => first | (go_simp; done) | (go_simp; rfl)); (case hp => exact (Reps.one (show Kd.M Kd.string _ _ _ t192 [.string t192] from rfl) (Reps.none _ _)))
  intro v194 w20 ho21 hb hg_ hnew_
  clear hg_ hnew_
  (first | rw [← Ny193.out] at ho21 | (simp only [Int.reduceToNat] at ho21; rw [← Ny193.out] at ho21))
  have n0_ := Aside0.mk (Kd.R_elder' (by (with_reducible repeat (first | apply Kd.R_alloc | apply Kd.R_drewN | apply Kd.R_drew)); exact HO191.out) (Kd.R_base ho21) hb)
  have n1_ := Aside0.mk (Kd.R_lower (Kd.R_new' ho21 (Kd.R_lt (by (with_reducible repeat (first | apply Kd.R_alloc | apply Kd.R_drewN | apply Kd.R_drew)); exact HO191.out))) (below_size (by repeat (first | (with_reducible first | exact HB.out | apply below_alloc | apply pw_below_drewN | apply below_drew1 | refine below_set ?_ GE180.out) | exact HB.out))))
  have n2_ := Aside0.mk (blk_below (g := gb180) (o := .cells #[.slice A0_0 l0_0.length c0_0, .slice A0_1 l0_1.length c0_1, .bool a0_2, .int .i64 a0_3, .bool a0_4, .int .i64 a0_5, .int .i64 a0_6, .int .i64 a0_7, .int .i64 a0_8, .int .i64 a0_9, .slice A0_10 l0_10.length c0_10, .slice A0_11 l0_11.length c0_11, .bool a0_12, .slice A0_13 l0_13.length c0_13, .bool a0_14, .int .i64 a0_15, .int .i64 a0_16, .int .i64 a0_17, .int .i64 a0_18, .int .i64 a0_19, .bool a0_20, .bool a0_21, .bool a0_22, .slice A0_23 l0_23.length c0_23, .slice A0_24 l0_24.length c0_24, .slice A0_25 l0_25.length c0_25, .slice A0_26 l0_26.length c0_26] 34 (0, 0)) (by (with_reducible repeat (first | refine blk_drewN ?_ _ | refine blk_drew ?_ | refine blk_alloc ?_ _)); exact BK180.out) hb)
  have n3_ := Aside0.mk (below_step (by repeat (first | (with_reducible first | exact HB.out | apply below_alloc | apply pw_below_drewN | apply below_drew1 | refine below_set ?_ GE180.out) | exact HB.out)) hb)
  clear HO191
  clear BK180
  clear HB
  have HO191 := n0_
  have HO195 := n1_
  have BK180 := n2_
  have HB := n3_
  clear n0_ n1_ n2_ n3_
  clear hb ho21
  refine hK.out _ _ ⟨(blk_cell BK180.out 0).trans rfl, (blk_cell BK180.out 1).trans rfl, (blk_cell BK180.out 2).trans rfl, (blk_cell BK180.out 3).trans rfl, (blk_cell BK180.out 4).trans rfl, (blk_cell BK180.out 5).trans rfl, (blk_cell BK180.out 6).trans rfl, (blk_cell BK180.out 7).trans rfl, (blk_cell BK180.out 8).trans rfl, (blk_cell BK180.out 9).trans rfl, (blk_cell BK180.out 10).trans rfl, (blk_cell BK180.out 11).trans rfl, (blk_cell BK180.out 12).trans rfl, (blk_cell BK180.out 13).trans rfl, (blk_cell BK180.out 14).trans rfl, (blk_cell BK180.out 15).trans rfl, (blk_cell BK180.out 16).trans rfl, (blk_cell BK180.out 17).trans rfl, (blk_cell BK180.out 18).trans rfl, (blk_cell BK180.out 19).trans rfl, (blk_cell BK180.out 20).trans rfl, (blk_cell BK180.out 21).trans rfl, (blk_cell BK180.out 22).trans rfl, (blk_cell BK180.out 23).trans rfl, (blk_cell BK180.out 24).trans rfl, (blk_cell BK180.out 25).trans rfl, (blk_cell BK180.out 26).trans rfl⟩ (fun hHeld => ?_)
  clear hK K
  refine norm_ (a' := ?_) ?_ ?_
  rotate_left
  · show Act.put _ (some 34) _ = _
    simp only [Act.put, List.setIfInBounds_toArray, List.set_cons_zero, List.set_cons_succ, i64_w, i32_w]
    rfl
  refine pure_ (i := 32) (N := some 2) (v := ?_) (a' := ?_) #[true, true, true, true, true, true, true, true, true, true, true, true, true, true, true, true, true, true, true, true, true, true, true, true, true, true, true, true, true, true, true, true, true] rfl rfl (any_of HT_.out (by kernel_rfl)) (fun _ _ _ h => h) (Or.inl ⟨by rfl, ?_⟩) ?_ ?_
  rotate_left
  · intro w'
    go_simp
    with_reducible rfl
  rotate_left
  · simp only [Act.put, List.setIfInBounds_toArray, List.set_cons_zero, List.set_cons_succ, i64_w, i32_w]
    rfl
  refine done_ (done_of HT_.out (by kernel_rfl)) ?_
  try go_wp2
  go_ret
  exact ⟨_, by first | rfl | (simp [errW_none, errW_some] <;> rfl) | (simp [*, errW_none, errW_some] <;> rfl), by (with_reducible repeat (first | apply Kd.R_alloc | apply Kd.R_drewN | apply Kd.R_drew)); exact Kd.R_mono HO195.out (fun _ hk => trivial), by repeat (first | (with_reducible first | exact HB.out | apply below_alloc | apply pw_below_drewN | apply below_drew1 | refine below_set ?_ GE180.out) | exact HB.out)⟩

-- NOT PRINTED: function 31 (strings_Builder_WriteByte)

/-! ### view_waits: function 21 -/
def view_waits.l0 : Nat → List ByteArray → List (S48) → Int → Int → Option (List ByteArray)
  | 0, _, _, _, _ => none
  | k + 1, x3, x8, x9, x10 => if x10 < x9 then (if 0 ≤ x10 then (if x10 < (x8.length : Int) then (if ((rd_T48 x8 x10).f0) = 1 then ((show_Quote.f ((rd_T48 x8 x10).f1)).bind fun t199 => ((show_Row.f (([(⟨#[102, 105, 108, 101]⟩ : ByteArray), t199] : List ByteArray))).bind fun t203 => (if x3.length < 8796093022208 then (view_waits.l0 k (x3 ++ [t203]) x8 x9 (wrap64 (x10 + 1))) else (none)))) else ((show_Quote.f ((rd_T48 x8 x10).f1)).bind fun t207 => ((show_Row.f (([(⟨#[116, 101, 120, 116]⟩ : ByteArray), t207] : List ByteArray))).bind fun t211 => (if x3.length < 8796093022208 then (view_waits.l0 k (x3 ++ [t211]) x8 x9 (wrap64 (x10 + 1))) else (none))))) else (none)) else (none)) else (some x3)
def view_waits.f (k : Nat) (l0_0 : List Int) (l0_1 : List Int) (a0_2 : Bool) (a0_3 : Int) (a0_4 : Bool) (a0_5 : Int) (a0_6 : Int) (a0_7 : Int) (a0_8 : Int) (a0_9 : Int) (l0_10 : List Int) (l0_11 : List Int) (a0_12 : Bool) (l0_13 : List Int) (a0_14 : Bool) (a0_15 : Int) (a0_16 : Int) (a0_17 : Int) (a0_18 : Int) (a0_19 : Int) (a0_20 : Bool) (a0_21 : Bool) (a0_22 : Bool) (l0_23 : List Bool) (l0_24 : List (S48)) (l0_25 : List (S43)) (l0_26 : List Bool) : Option (List ByteArray) := view_waits.l0 k ([] : List ByteArray) l0_24 (l0_24.length : Int) 0
theorem view_waits.mono_l : ∀ k, (∀ y0 y1 y2 y3, LeO (view_waits.l0 k y0 y1 y2 y3) (view_waits.l0 (k + 1) y0 y1 y2 y3))
  | 0 => fun _ _ _ _ r h => by simp [view_waits.l0] at h
  | k + 1 => by
    have ih0 := view_waits.mono_l k
    · intro y0 y1 y2 y3
      unfold view_waits.l0
      repeat' first
      | (with_reducible exact ih0 _ _ _ _)
      | (with_reducible exact LeO.refl _)
      | (with_reducible exact LeO.none _)
      | (with_reducible refine LeO.ite ?_ ?_)
      | (with_reducible refine LeO.bind ?_ (fun _ => ?_))
      | exact ih0 _ _ _ _
      | exact LeO.none _
      | refine LeO.ite ?_ ?_
      | refine LeO.bind ?_ (fun _ => ?_)
theorem view_waits.mono : ∀ a0 a1 a2 a3 a4 a5 a6 a7 a8 a9 a10 a11 a12 a13 a14 a15 a16 a17 a18 a19 a20 a21 a22 a23 a24 a25 a26 k, LeO (view_waits.f k a0 a1 a2 a3 a4 a5 a6 a7 a8 a9 a10 a11 a12 a13 a14 a15 a16 a17 a18 a19 a20 a21 a22 a23 a24 a25 a26) (view_waits.f (k + 1) a0 a1 a2 a3 a4 a5 a6 a7 a8 a9 a10 a11 a12 a13 a14 a15 a16 a17 a18 a19 a20 a21 a22 a23 a24 a25 a26) := by
  intro a0 a1 a2 a3 a4 a5 a6 a7 a8 a9 a10 a11 a12 a13 a14 a15 a16 a17 a18 a19 a20 a21 a22 a23 a24 a25 a26 k
  have ih0 := view_waits.mono_l k
  unfold view_waits.f
  repeat' first
      | (with_reducible exact ih0 _ _ _ _)
      | (with_reducible exact LeO.refl _)
      | (with_reducible exact LeO.none _)
      | (with_reducible refine LeO.ite ?_ ?_)
      | (with_reducible refine LeO.bind ?_ (fun _ => ?_))
      | exact ih0 _ _ _ _
      | exact LeO.none _
      | refine LeO.ite ?_ ?_
      | refine LeO.bind ?_ (fun _ => ?_)
set_option maxHeartbeats 8000000 in
set_option maxRecDepth 100000 in
theorem view_waits.calls (k : Nat) (A0_0 : Option Addr) (c0_0 : Nat) (l0_0 : List Int) (A0_1 : Option Addr) (c0_1 : Nat) (l0_1 : List Int) (a0_2 : Bool) (a0_3 : Int) (a0_4 : Bool) (a0_5 : Int) (a0_6 : Int) (a0_7 : Int) (a0_8 : Int) (a0_9 : Int) (A0_10 : Option Addr) (c0_10 : Nat) (l0_10 : List Int) (A0_11 : Option Addr) (c0_11 : Nat) (l0_11 : List Int) (a0_12 : Bool) (A0_13 : Option Addr) (c0_13 : Nat) (l0_13 : List Int) (a0_14 : Bool) (a0_15 : Int) (a0_16 : Int) (a0_17 : Int) (a0_18 : Int) (a0_19 : Int) (a0_20 : Bool) (a0_21 : Bool) (a0_22 : Bool) (A0_23 : Option Addr) (c0_23 : Nat) (l0_23 : List Bool) (A0_24 : Option Addr) (c0_24 : Nat) (l0_24 : List (S48)) (A0_25 : Option Addr) (c0_25 : Nat) (l0_25 : List (S43)) (A0_26 : Option Addr) (c0_26 : Nat) (l0_26 : List Bool) (r : List ByteArray) (w : World) (hr0_0 : Kd.C (Kd.int .u8) w A0_0 l0_0.length l0_0) (hc0_0 : l0_0.length ≤ c0_0) (hr0_1 : Kd.C (Kd.int .u8) w A0_1 l0_1.length l0_1) (hc0_1 : l0_1.length ≤ c0_1) (hr0_10 : Kd.C (Kd.int .u8) w A0_10 l0_10.length l0_10) (hc0_10 : l0_10.length ≤ c0_10) (hr0_11 : Kd.C (Kd.int .u8) w A0_11 l0_11.length l0_11) (hc0_11 : l0_11.length ≤ c0_11) (hr0_13 : Kd.C (Kd.int .u8) w A0_13 l0_13.length l0_13) (hc0_13 : l0_13.length ≤ c0_13) (hr0_23 : Kd.C Kd.bool w A0_23 l0_23.length l0_23) (hc0_23 : l0_23.length ≤ c0_23) (hr0_24 : Kd.C k48 w A0_24 l0_24.length l0_24) (hc0_24 : l0_24.length ≤ c0_24) (hr0_25 : Kd.C k43 w A0_25 l0_25.length l0_25) (hc0_25 : l0_25.length ≤ c0_25) (hr0_26 : Kd.C Kd.bool w A0_26 l0_26.length l0_26) (hc0_26 : l0_26.length ≤ c0_26) (h : view_waits.f k l0_0 l0_1 a0_2 a0_3 a0_4 a0_5 a0_6 a0_7 a0_8 a0_9 l0_10 l0_11 a0_12 l0_13 a0_14 a0_15 a0_16 a0_17 a0_18 a0_19 a0_20 a0_21 a0_22 l0_23 l0_24 l0_25 l0_26 = some r) :
    Calls Tryd.prog 21 #[.agg #[.slice A0_0 l0_0.length c0_0, .slice A0_1 l0_1.length c0_1, .bool a0_2, .int .i64 a0_3, .bool a0_4, .int .i64 a0_5, .int .i64 a0_6, .int .i64 a0_7, .int .i64 a0_8, .int .i64 a0_9, .slice A0_10 l0_10.length c0_10, .slice A0_11 l0_11.length c0_11, .bool a0_12, .slice A0_13 l0_13.length c0_13, .bool a0_14, .int .i64 a0_15, .int .i64 a0_16, .int .i64 a0_17, .int .i64 a0_18, .int .i64 a0_19, .bool a0_20, .bool a0_21, .bool a0_22, .slice A0_23 l0_23.length c0_23, .slice A0_24 l0_24.length c0_24, .slice A0_25 l0_25.length c0_25, .slice A0_26 l0_26.length c0_26]] w fun e w' => ∃ v0_ : Value, e = .returned (v0_) ∧ Kd.R Kd.string 9 w' w.heap.size (fun _ => True) v0_ r ∧ Below w.heap.size w w' := by
  have hu34 := Tryd.underlying34
  have hu48 := Tryd.underlying48
  have HR0_0 := Aside0.mk hr0_0
  have HC0_0 := Aside0.mk hc0_0
  clear hr0_0 hc0_0
  have HR0_1 := Aside0.mk hr0_1
  have HC0_1 := Aside0.mk hc0_1
  clear hr0_1 hc0_1
  have HR0_10 := Aside0.mk hr0_10
  have HC0_10 := Aside0.mk hc0_10
  clear hr0_10 hc0_10
  have HR0_11 := Aside0.mk hr0_11
  have HC0_11 := Aside0.mk hc0_11
  clear hr0_11 hc0_11
  have HR0_13 := Aside0.mk hr0_13
  have HC0_13 := Aside0.mk hc0_13
  clear hr0_13 hc0_13
  have HR0_23 := Aside0.mk hr0_23
  have HC0_23 := Aside0.mk hc0_23
  clear hr0_23 hc0_23
  have HR0_24 := Aside0.mk hr0_24
  have HC0_24 := Aside0.mk hc0_24
  clear hr0_24 hc0_24
  have HR0_25 := Aside0.mk hr0_25
  have HC0_25 := Aside0.mk hc0_25
  clear hr0_25 hc0_25
  have HR0_26 := Aside0.mk hr0_26
  have HC0_26 := Aside0.mk hc0_26
  clear hr0_26 hc0_26
  have HB := Aside0.mk (Below.refl w.heap.size w)
  have H : (view_waits.l0 k ([] : List ByteArray) l0_24 (l0_24.length : Int) 0) = some r := h
  clear h
  have H' := Aside0.mk H
  clear H
  go_enter Tryd.func21, Tryd.ntmps21
  go_wp2_with (first | ((with_reducible refine gate_dst (N := 1) rfl ?_); refine box_event ?hg (N := 1) ?hd (cs := #[.slice A0_0 l0_0.length c0_0, .slice A0_1 l0_1.length c0_1, .bool a0_2, .int .i64 a0_3, .bool a0_4, .int .i64 a0_5, .int .i64 a0_6, .int .i64 a0_7, .int .i64 a0_8, .int .i64 a0_9, .slice A0_10 l0_10.length c0_10, .slice A0_11 l0_11.length c0_11, .bool a0_12, .slice A0_13 l0_13.length c0_13, .bool a0_14, .int .i64 a0_15, .int .i64 a0_16, .int .i64 a0_17, .int .i64 a0_18, .int .i64 a0_19, .bool a0_20, .bool a0_21, .bool a0_22, .slice A0_23 l0_23.length c0_23, .slice A0_24 l0_24.length c0_24, .slice A0_25 l0_25.length c0_25, .slice A0_26 l0_26.length c0_26]) (t := 34) ?hr ?_; (case hd => rfl); (case hg => rfl); (case hr => first | (go_simp; done) | (go_simp; rfl)); intro gb196 hg w2 hbox hb; have n0_ := Aside0.mk (below_step (by repeat (first | (with_reducible first | exact HB.out | apply below_alloc | apply pw_below_drewN | apply below_drew1) | exact HB.out)) hb); have n1_ := Aside0.mk (hbox); have n2_ := Aside0.mk ((by rw [hg]; exact (below_size (by repeat (first | (with_reducible first | exact HB.out | apply below_alloc | apply pw_below_drewN | apply below_drew1) | exact HB.out))) : w.heap.size ≤ gb196)); have n3_ := Aside0.mk ((by rw [hg]; exact (below_size (by repeat (first | (with_reducible first | exact HB.out | apply below_alloc | apply pw_below_drewN | apply below_drew1) | exact HB.out))) : w.heap.size ≤ gb196)); clear HB; have HB := n0_; have BK196 := n1_; have GW196 := n2_; have GE196 := n3_; clear n0_ n1_ n2_ n3_; clear hb hbox hg; have hcz3_0 : w2.cell? ⟨gb196, 0, none⟩ = some (.slice A0_0 l0_0.length c0_0) := (blk_cell BK196.out 0).trans rfl; have hcz3_1 : w2.cell? ⟨gb196, 1, none⟩ = some (.slice A0_1 l0_1.length c0_1) := (blk_cell BK196.out 1).trans rfl; have hcz3_2 : w2.cell? ⟨gb196, 2, none⟩ = some (.bool a0_2) := (blk_cell BK196.out 2).trans rfl; have hcz3_3 : w2.cell? ⟨gb196, 3, none⟩ = some (.int .i64 a0_3) := (blk_cell BK196.out 3).trans rfl; have hcz3_4 : w2.cell? ⟨gb196, 4, none⟩ = some (.bool a0_4) := (blk_cell BK196.out 4).trans rfl; have hcz3_5 : w2.cell? ⟨gb196, 5, none⟩ = some (.int .i64 a0_5) := (blk_cell BK196.out 5).trans rfl; have hcz3_6 : w2.cell? ⟨gb196, 6, none⟩ = some (.int .i64 a0_6) := (blk_cell BK196.out 6).trans rfl; have hcz3_7 : w2.cell? ⟨gb196, 7, none⟩ = some (.int .i64 a0_7) := (blk_cell BK196.out 7).trans rfl; have hcz3_8 : w2.cell? ⟨gb196, 8, none⟩ = some (.int .i64 a0_8) := (blk_cell BK196.out 8).trans rfl; have hcz3_9 : w2.cell? ⟨gb196, 9, none⟩ = some (.int .i64 a0_9) := (blk_cell BK196.out 9).trans rfl; have hcz3_10 : w2.cell? ⟨gb196, 10, none⟩ = some (.slice A0_10 l0_10.length c0_10) := (blk_cell BK196.out 10).trans rfl; have hcz3_11 : w2.cell? ⟨gb196, 11, none⟩ = some (.slice A0_11 l0_11.length c0_11) := (blk_cell BK196.out 11).trans rfl; have hcz3_12 : w2.cell? ⟨gb196, 12, none⟩ = some (.bool a0_12) := (blk_cell BK196.out 12).trans rfl; have hcz3_13 : w2.cell? ⟨gb196, 13, none⟩ = some (.slice A0_13 l0_13.length c0_13) := (blk_cell BK196.out 13).trans rfl; have hcz3_14 : w2.cell? ⟨gb196, 14, none⟩ = some (.bool a0_14) := (blk_cell BK196.out 14).trans rfl; have hcz3_15 : w2.cell? ⟨gb196, 15, none⟩ = some (.int .i64 a0_15) := (blk_cell BK196.out 15).trans rfl; have hcz3_16 : w2.cell? ⟨gb196, 16, none⟩ = some (.int .i64 a0_16) := (blk_cell BK196.out 16).trans rfl; have hcz3_17 : w2.cell? ⟨gb196, 17, none⟩ = some (.int .i64 a0_17) := (blk_cell BK196.out 17).trans rfl; have hcz3_18 : w2.cell? ⟨gb196, 18, none⟩ = some (.int .i64 a0_18) := (blk_cell BK196.out 18).trans rfl; have hcz3_19 : w2.cell? ⟨gb196, 19, none⟩ = some (.int .i64 a0_19) := (blk_cell BK196.out 19).trans rfl; have hcz3_20 : w2.cell? ⟨gb196, 20, none⟩ = some (.bool a0_20) := (blk_cell BK196.out 20).trans rfl; have hcz3_21 : w2.cell? ⟨gb196, 21, none⟩ = some (.bool a0_21) := (blk_cell BK196.out 21).trans rfl; have hcz3_22 : w2.cell? ⟨gb196, 22, none⟩ = some (.bool a0_22) := (blk_cell BK196.out 22).trans rfl; have hcz3_23 : w2.cell? ⟨gb196, 23, none⟩ = some (.slice A0_23 l0_23.length c0_23) := (blk_cell BK196.out 23).trans rfl; have hcz3_24 : w2.cell? ⟨gb196, 24, none⟩ = some (.slice A0_24 l0_24.length c0_24) := (blk_cell BK196.out 24).trans rfl; have hcz3_25 : w2.cell? ⟨gb196, 25, none⟩ = some (.slice A0_25 l0_25.length c0_25) := (blk_cell BK196.out 25).trans rfl; have hcz3_26 : w2.cell? ⟨gb196, 26, none⟩ = some (.slice A0_26 l0_26.length c0_26) := (blk_cell BK196.out 26).trans rfl; have hfz3_0 := blk_frozen BK196.out 0; have hfz3_1 := blk_frozen BK196.out 1; have hfz3_2 := blk_frozen BK196.out 2; have hfz3_3 := blk_frozen BK196.out 3; have hfz3_4 := blk_frozen BK196.out 4; have hfz3_5 := blk_frozen BK196.out 5; have hfz3_6 := blk_frozen BK196.out 6; have hfz3_7 := blk_frozen BK196.out 7; have hfz3_8 := blk_frozen BK196.out 8; have hfz3_9 := blk_frozen BK196.out 9; have hfz3_10 := blk_frozen BK196.out 10; have hfz3_11 := blk_frozen BK196.out 11; have hfz3_12 := blk_frozen BK196.out 12; have hfz3_13 := blk_frozen BK196.out 13; have hfz3_14 := blk_frozen BK196.out 14; have hfz3_15 := blk_frozen BK196.out 15; have hfz3_16 := blk_frozen BK196.out 16; have hfz3_17 := blk_frozen BK196.out 17; have hfz3_18 := blk_frozen BK196.out 18; have hfz3_19 := blk_frozen BK196.out 19; have hfz3_20 := blk_frozen BK196.out 20; have hfz3_21 := blk_frozen BK196.out 21; have hfz3_22 := blk_frozen BK196.out 22; have hfz3_23 := blk_frozen BK196.out 23; have hfz3_24 := blk_frozen BK196.out 24; have hfz3_25 := blk_frozen BK196.out 25; have hfz3_26 := blk_frozen BK196.out 26))
  go_loopg [3, 10] k (fun kq v3 v10 w' => ∃ (x3_1 : List ByteArray) (x10_1 : Int), v10 = .int .i64 x10_1 ∧ Aside0 (view_waits.l0 kq x3_1 l0_24 (l0_24.length : Int) x10_1 = some r) ∧ Aside0 (kq ≤ k) ∧ Aside0 (Kd.R Kd.string 9 w' w.heap.size (fun _ => True) v3 x3_1) ∧ Aside0 (w'.heap[gb196]? = some (.cells #[(.slice A0_0 l0_0.length c0_0), (.slice A0_1 l0_1.length c0_1), .bool a0_2, .int .i64 a0_3, .bool a0_4, .int .i64 a0_5, .int .i64 a0_6, .int .i64 a0_7, .int .i64 a0_8, .int .i64 a0_9, (.slice A0_10 l0_10.length c0_10), (.slice A0_11 l0_11.length c0_11), .bool a0_12, (.slice A0_13 l0_13.length c0_13), .bool a0_14, .int .i64 a0_15, .int .i64 a0_16, .int .i64 a0_17, .int .i64 a0_18, .int .i64 a0_19, .bool a0_20, .bool a0_21, .bool a0_22, (.slice A0_23 l0_23.length c0_23), (.slice A0_24 l0_24.length c0_24), (.slice A0_25 l0_25.length c0_25), (.slice A0_26 l0_26.length c0_26)] 34 (0, 0))) ∧ Aside0 (Below w.heap.size w w'))
  case atStart => exact ⟨(([] : List ByteArray)), (0), (by first | rfl | (simp; done) | (simp [*]; done)), H', ⟨Nat.le_refl _⟩, ⟨by first | exact Kd.R_nil _ _ _ _ _ | exact Kd.N_nil _ _ _ _ _ | exact Kd.V_nil _ _ _ _ _ | exact Kd.Q_nil _ _ _ _ _ | exact Kd.S_nil _ _ _ _ _⟩, ⟨by (with_reducible repeat (first | refine blk_drewN ?_ _ | refine blk_drew ?_ | refine blk_alloc ?_ _)); exact BK196.out⟩, ⟨by repeat (first | (with_reducible first | exact HB.out | apply below_alloc | apply pw_below_drewN | apply below_drew1 | refine below_set ?_ GE196.out) | exact HB.out)⟩⟩
  case round =>
    clear H'
    try clear c2
    try clear p2
    try clear hcz3_0
    try clear hcz3_1
    try clear hcz3_10
    try clear hcz3_11
    try clear hcz3_12
    try clear hcz3_13
    try clear hcz3_14
    try clear hcz3_15
    try clear hcz3_16
    try clear hcz3_17
    try clear hcz3_18
    try clear hcz3_19
    try clear hcz3_2
    try clear hcz3_20
    try clear hcz3_21
    try clear hcz3_22
    try clear hcz3_23
    try clear hcz3_24
    try clear hcz3_25
    try clear hcz3_26
    try clear hcz3_3
    try clear hcz3_4
    try clear hcz3_5
    try clear hcz3_6
    try clear hcz3_7
    try clear hcz3_8
    try clear hcz3_9
    try clear hfz3_0
    try clear hfz3_1
    try clear hfz3_10
    try clear hfz3_11
    try clear hfz3_12
    try clear hfz3_13
    try clear hfz3_14
    try clear hfz3_15
    try clear hfz3_16
    try clear hfz3_17
    try clear hfz3_18
    try clear hfz3_19
    try clear hfz3_2
    try clear hfz3_20
    try clear hfz3_21
    try clear hfz3_22
    try clear hfz3_23
    try clear hfz3_24
    try clear hfz3_25
    try clear hfz3_26
    try clear hfz3_3
    try clear hfz3_4
    try clear hfz3_5
    try clear hfz3_6
    try clear hfz3_7
    try clear hfz3_8
    try clear hfz3_9
    obtain ⟨x3_1, x10_1, rfl, HA, HK1, HO_3, BK196, HB⟩ := hrel
    cases gk with
    | zero => exact absurd HA.out (by simp [view_waits.l0])
    | succ k1 =>
      have H := HA.out
      clear HA
      simp only [view_waits.l0] at H
      by_cases c4 : x10_1 < (l0_24.length : Int)
      · rw [if_pos c4] at H
        have c4b0 : decide (x10_1 < (l0_24.length : Int)) = true := decide_eq_true c4
        clear c4
        by_cases c5 : 0 ≤ x10_1
        · rw [if_pos c5] at H
          have c5b0 : decide (0 ≤ x10_1) = true := decide_eq_true c5
          clear c5
          by_cases c6 : x10_1 < (l0_24.length : Int)
          · rw [if_pos c6] at H
            have c6b0 : decide (x10_1 < (l0_24.length : Int)) = true := decide_eq_true c6
            clear c6
            by_cases c7 : ((rd_T48 l0_24 x10_1).f0) = 1
            · rw [if_pos c7] at H
              have c7b0 : (((rd_T48 l0_24 x10_1).f0) == 1) = true := beq_iff_eq.mpr c7
              have c7b1 : (((rd_T48 l0_24 x10_1).f0) != 1) = false := bne_eq_false_iff_eq.mpr c7
              clear c7
              replace H := Option.bind_eq_some_iff.mp H
              obtain ⟨t199, A80, H⟩ := H
              replace H : ((show_Row.f (([(⟨#[102, 105, 108, 101]⟩ : ByteArray), t199] : List ByteArray))).bind fun t203 => (if x3_1.length < 8796093022208 then (view_waits.l0 k1 (x3_1 ++ [t203]) l0_24 (l0_24.length : Int) (wrap64 (x10_1 + 1))) else (none))) = some r := H
              have A8 := Aside0.mk A80
              clear A80
              obtain ⟨y200, hy200⟩ : ∃ y_ : List ByteArray, y_ = (([(⟨#[102, 105, 108, 101]⟩ : ByteArray), t199] : List ByteArray)) := ⟨_, rfl⟩
              replace H : ((show_Row.f y200).bind fun t203 => (if x3_1.length < 8796093022208 then (view_waits.l0 k1 (x3_1 ++ [t203]) l0_24 (l0_24.length : Int) (wrap64 (x10_1 + 1))) else (none))) = some r := by first | (rw [hy200]; with_reducible exact H) | (have H2_ := (Option.bind_some _ _).symm.trans H; rw [hy200]; with_reducible exact H2_) | (have H2_ := (Option.bind_some _ _).symm.trans H; with_reducible exact H2_) | with_reducible exact H | (rw [hy200]; exact H) | exact H
              have Ny200 := Aside0.mk hy200
              clear hy200
              replace H := Option.bind_eq_some_iff.mp H
              obtain ⟨t203, A90, H⟩ := H
              replace H : (if x3_1.length < 8796093022208 then (view_waits.l0 k1 (x3_1 ++ [t203]) l0_24 (l0_24.length : Int) (wrap64 (x10_1 + 1))) else (none)) = some r := H
              have A9 := Aside0.mk A90
              clear A90
              by_cases c10 : x3_1.length < 8796093022208
              · rw [if_pos c10] at H
                have LMc10 := Aside0.mk c10
                clear c10
                obtain ⟨y204, hy204⟩ : ∃ y_ : List ByteArray, y_ = (x3_1 ++ [t203]) := ⟨_, rfl⟩
                replace H : (view_waits.l0 k1 y204 l0_24 (l0_24.length : Int) (wrap64 (x10_1 + 1))) = some r := by first | (rw [hy204]; with_reducible exact H) | (have H2_ := (Option.bind_some _ _).symm.trans H; rw [hy204]; with_reducible exact H2_) | (have H2_ := (Option.bind_some _ _).symm.trans H; with_reducible exact H2_) | with_reducible exact H | (rw [hy204]; exact H) | exact H
                have Ny204 := Aside0.mk hy204
                clear hy204
                have H' := Aside0.mk H
                clear H
                have p197 : 0 ≤ (x10_1 : Int) := of_decide_eq_true (by first | (with_reducible assumption) | assumption)
                have q197 : x10_1 < (l0_24.length : Int) := of_decide_eq_true (by first | (with_reducible assumption) | assumption)
                obtain ⟨ad197, A197_1, c197_1, e197, hx197_0, hx197_1, hl197_1, hi197_1⟩ := at_T48 HR0_24.out x10_1 p197 q197
                cases e197
                replace hx197_0 := (HB.out.cell (World.block_lt_of_cell? w _ hx197_0)).trans hx197_0
                replace hx197_1 := (HB.out.cell (World.block_lt_of_cell? w _ hx197_1)).trans hx197_1
                have HR197_1 := Aside0.mk hi197_1
                have HC197_1 := Aside0.mk hl197_1
                clear hi197_1 hl197_1
                replace p197 := eq_true p197
                replace q197 := eq_true q197
                go_wp2_with (first | ((with_reducible refine gate_dst (N := 5) rfl ?_); refine box_event ?hg (N := 5) ?hd (cs := #[.int .i64 0, .slice none 0 0]) (t := 48) ?hr ?_; (case hd => rfl); (case hg => rfl); (case hr => first | (go_simp; done) | (go_simp; rfl)); intro gb198 hg w11 hbox hb; have n0_ := Aside0.mk (Kd.R_below (by (with_reducible repeat (first | apply Kd.R_alloc | apply Kd.R_drewN | apply Kd.R_drew)); exact HO_3.out) hb); have n1_ := Aside0.mk (blk_below (g := gb196) (o := .cells #[.slice A0_0 l0_0.length c0_0, .slice A0_1 l0_1.length c0_1, .bool a0_2, .int .i64 a0_3, .bool a0_4, .int .i64 a0_5, .int .i64 a0_6, .int .i64 a0_7, .int .i64 a0_8, .int .i64 a0_9, .slice A0_10 l0_10.length c0_10, .slice A0_11 l0_11.length c0_11, .bool a0_12, .slice A0_13 l0_13.length c0_13, .bool a0_14, .int .i64 a0_15, .int .i64 a0_16, .int .i64 a0_17, .int .i64 a0_18, .int .i64 a0_19, .bool a0_20, .bool a0_21, .bool a0_22, .slice A0_23 l0_23.length c0_23, .slice (some ad197) l0_24.length c0_24, .slice A0_25 l0_25.length c0_25, .slice A0_26 l0_26.length c0_26] 34 (0, 0)) (by (with_reducible repeat (first | refine blk_drewN ?_ _ | refine blk_drew ?_ | refine blk_alloc ?_ _)); exact BK196.out) hb); have n2_ := Aside0.mk (below_step (by repeat (first | (with_reducible first | exact HB.out | apply below_alloc | apply pw_below_drewN | apply below_drew1 | refine below_set ?_ GE196.out) | exact HB.out)) hb); have n3_ := Aside0.mk (hbox); have n4_ := Aside0.mk ((by rw [hg]; exact (below_size (by repeat (first | (with_reducible first | exact HB.out | apply below_alloc | apply pw_below_drewN | apply below_drew1 | refine below_set ?_ GE196.out) | exact HB.out))) : w.heap.size ≤ gb198)); have n5_ := Aside0.mk ((by rw [hg]; exact (below_size (by repeat (first | (with_reducible first | exact HB.out | apply below_alloc | apply pw_below_drewN | apply below_drew1 | refine below_set ?_ GE196.out) | exact HB.out))) : w.heap.size ≤ gb198)); have n6_ := Aside0.mk ((by rw [hg]; exact Nat.ne_of_lt (blk_lt (g := gb196) (o := .cells #[.slice A0_0 l0_0.length c0_0, .slice A0_1 l0_1.length c0_1, .bool a0_2, .int .i64 a0_3, .bool a0_4, .int .i64 a0_5, .int .i64 a0_6, .int .i64 a0_7, .int .i64 a0_8, .int .i64 a0_9, .slice A0_10 l0_10.length c0_10, .slice A0_11 l0_11.length c0_11, .bool a0_12, .slice A0_13 l0_13.length c0_13, .bool a0_14, .int .i64 a0_15, .int .i64 a0_16, .int .i64 a0_17, .int .i64 a0_18, .int .i64 a0_19, .bool a0_20, .bool a0_21, .bool a0_22, .slice A0_23 l0_23.length c0_23, .slice (some ad197) l0_24.length c0_24, .slice A0_25 l0_25.length c0_25, .slice A0_26 l0_26.length c0_26] 34 (0, 0)) (by (with_reducible repeat (first | refine blk_drewN ?_ _ | refine blk_drew ?_ | refine blk_alloc ?_ _)); exact BK196.out)) : gb196 ≠ gb198)); have n7_ := Aside0.mk ((by rw [hg]; exact Nat.ne_of_gt (blk_lt (g := gb196) (o := .cells #[.slice A0_0 l0_0.length c0_0, .slice A0_1 l0_1.length c0_1, .bool a0_2, .int .i64 a0_3, .bool a0_4, .int .i64 a0_5, .int .i64 a0_6, .int .i64 a0_7, .int .i64 a0_8, .int .i64 a0_9, .slice A0_10 l0_10.length c0_10, .slice A0_11 l0_11.length c0_11, .bool a0_12, .slice A0_13 l0_13.length c0_13, .bool a0_14, .int .i64 a0_15, .int .i64 a0_16, .int .i64 a0_17, .int .i64 a0_18, .int .i64 a0_19, .bool a0_20, .bool a0_21, .bool a0_22, .slice A0_23 l0_23.length c0_23, .slice (some ad197) l0_24.length c0_24, .slice A0_25 l0_25.length c0_25, .slice A0_26 l0_26.length c0_26] 34 (0, 0)) (by (with_reducible repeat (first | refine blk_drewN ?_ _ | refine blk_drew ?_ | refine blk_alloc ?_ _)); exact BK196.out)) : gb198 ≠ gb196)); clear HO_3; clear BK196; clear HB; have HO_3 := n0_; have BK196 := n1_; have HB := n2_; have BK198 := n3_; have GW198 := n4_; have GE198 := n5_; have NB196_198 := n6_; have NB198_196 := n7_; clear n0_ n1_ n2_ n3_ n4_ n5_ n6_ n7_; clear hb hbox hg; have hnb12 := NB198_196.out; have hnc12 := NB196_198.out; have hcz13_0 : w11.cell? ⟨gb198, 0, none⟩ = some (.int .i64 0) := (blk_cell BK198.out 0).trans rfl; have hcz13_1 : w11.cell? ⟨gb198, 1, none⟩ = some (.slice none 0 0) := (blk_cell BK198.out 1).trans rfl; have hfz13_0 := blk_frozen BK198.out 0; have hfz13_1 := blk_frozen BK198.out 1) | ((with_reducible refine gate_callee (f := 19) rfl ?_); refine goesL_ (some 21) rfl rfl Tryd.func19 (by kernel_rfl) rfl #[.slice A197_1 ((rd_T48 l0_24 x10_1).f1).length c197_1] rfl (by (try simp only [List.map_toArray, List.map_cons, List.map_nil]); first | done | rfl | (simp only [List.length_drop, List.length_take]; rfl)) ?_; (with_reducible refine (show_Quote.calls _ _ ((rd_T48 l0_24 x10_1).f1) t199 _ ?side1 ?side2 A8.out).mono ?_); (case side1 => exact Kd.C_below HR197_1.out (by repeat (first | (with_reducible first | exact HB.out | apply below_alloc | apply pw_below_drewN | apply below_drew1 | refine below_set ?_ GE196.out | refine below_set ?_ GE198.out) | exact HB.out))); (case side2 => exact HC197_1.out); rintro e w14 ⟨rfl, hb⟩; refine ⟨_, rfl, ?_⟩; have n0_ := Aside0.mk (Kd.R_below (by (with_reducible repeat (first | apply Kd.R_alloc | apply Kd.R_drewN | apply Kd.R_drew)); exact (Kd.R_mono (Kd.R_far (p := ⟨gb198, 1, none⟩) (Kd.R_far (p := ⟨gb198, 0, none⟩) (Kd.R_types HO_3.out BK198.out (by decide)) (fun _ hk => hk.2) (.int .i64 ((rd_T48 l0_24 x10_1).f0))) (fun _ hk => hk.2) (.slice A197_1 ((rd_T48 l0_24 x10_1).f1).length c197_1)) (fun _ h_ => h_.1))) hb); have n1_ := Aside0.mk (blk_below (g := gb196) (o := .cells #[.slice A0_0 l0_0.length c0_0, .slice A0_1 l0_1.length c0_1, .bool a0_2, .int .i64 a0_3, .bool a0_4, .int .i64 a0_5, .int .i64 a0_6, .int .i64 a0_7, .int .i64 a0_8, .int .i64 a0_9, .slice A0_10 l0_10.length c0_10, .slice A0_11 l0_11.length c0_11, .bool a0_12, .slice A0_13 l0_13.length c0_13, .bool a0_14, .int .i64 a0_15, .int .i64 a0_16, .int .i64 a0_17, .int .i64 a0_18, .int .i64 a0_19, .bool a0_20, .bool a0_21, .bool a0_22, .slice A0_23 l0_23.length c0_23, .slice (some ad197) l0_24.length c0_24, .slice A0_25 l0_25.length c0_25, .slice A0_26 l0_26.length c0_26] 34 (0, 0)) (by (with_reducible repeat (first | refine blk_drewN ?_ _ | refine blk_drew ?_ | refine blk_alloc ?_ _)); refine blk_far ?_ NB196_198.out _; (with_reducible repeat (first | refine blk_drewN ?_ _ | refine blk_drew ?_ | refine blk_alloc ?_ _)); refine blk_far ?_ NB196_198.out _; (with_reducible repeat (first | refine blk_drewN ?_ _ | refine blk_drew ?_ | refine blk_alloc ?_ _)); exact BK196.out) hb); have n2_ := Aside0.mk (blk_below (g := gb198) (o := .cells #[.int .i64 ((rd_T48 l0_24 x10_1).f0), .slice A197_1 ((rd_T48 l0_24 x10_1).f1).length c197_1] 48 (0, 0)) (by (with_reducible repeat (first | refine blk_drewN ?_ _ | refine blk_drew ?_ | refine blk_alloc ?_ _)); refine blk_put (cs := #[.int .i64 ((rd_T48 l0_24 x10_1).f0), .slice none 0 0]) ?_ 1 _ rfl; (with_reducible repeat (first | refine blk_drewN ?_ _ | refine blk_drew ?_ | refine blk_alloc ?_ _)); refine blk_put (cs := #[.int .i64 0, .slice none 0 0]) ?_ 0 _ rfl; (with_reducible repeat (first | refine blk_drewN ?_ _ | refine blk_drew ?_ | refine blk_alloc ?_ _)); exact BK198.out) hb); have n3_ := Aside0.mk (below_step (by repeat (first | (with_reducible first | exact HB.out | apply below_alloc | apply pw_below_drewN | apply below_drew1 | refine below_set ?_ GE196.out | refine below_set ?_ GE198.out) | exact HB.out)) hb); clear HO_3; clear BK196; clear BK198; clear HB; have HO_3 := n0_; have BK196 := n1_; have BK198 := n2_; have HB := n3_; clear n0_ n1_ n2_ n3_; (try clear hb); (try clear hb2); (try clear hk); (try clear hi)) | ((with_reducible refine gate_dst (N := 22) rfl ?_); refine Kd.R_lit Kd.string _ 9 ?hg (N := 22) ?hd (xs := ([(⟨#[102, 105, 108, 101]⟩ : ByteArray), t199] : List ByteArray)) (inner := [.string (⟨#[102, 105, 108, 101]⟩ : ByteArray), .string t199]) (ok := fun _ => True) (okp := fun _ => True) ?hr ?hp (fun _ hk => hk) trivial (Below.refl _ _) (Nat.le_refl _) (by simp) ?_; (case hd => rfl); (case hg => rfl); (case hr => first | (go_simp; done) | (go_simp; rfl)); (case hp => exact (Reps.one (show Kd.M Kd.string _ _ _ (⟨#[102, 105, 108, 101]⟩ : ByteArray) [.string (⟨#[102, 105, 108, 101]⟩ : ByteArray)] from rfl) (Reps.one (show Kd.M Kd.string _ _ _ t199 [.string t199] from rfl) (Reps.none _ _)))); intro v201 w15 ho16 hb hg_ hnew_; clear hg_ hnew_; (first | rw [← Ny200.out] at ho16 | (simp only [Int.reduceToNat] at ho16; rw [← Ny200.out] at ho16)); have n0_ := Aside0.mk (Kd.R_elder' (by (with_reducible repeat (first | apply Kd.R_alloc | apply Kd.R_drewN | apply Kd.R_drew)); exact HO_3.out) (Kd.R_base ho16) hb); have n1_ := Aside0.mk (Kd.R_lower (Kd.R_new' ho16 (Kd.R_lt (by (with_reducible repeat (first | apply Kd.R_alloc | apply Kd.R_drewN | apply Kd.R_drew)); exact HO_3.out))) (below_size (by repeat (first | (with_reducible first | exact HB.out | apply below_alloc | apply pw_below_drewN | apply below_drew1 | refine below_set ?_ GE196.out | refine below_set ?_ GE198.out) | exact HB.out)))); have n2_ := Aside0.mk (blk_below (g := gb196) (o := .cells #[.slice A0_0 l0_0.length c0_0, .slice A0_1 l0_1.length c0_1, .bool a0_2, .int .i64 a0_3, .bool a0_4, .int .i64 a0_5, .int .i64 a0_6, .int .i64 a0_7, .int .i64 a0_8, .int .i64 a0_9, .slice A0_10 l0_10.length c0_10, .slice A0_11 l0_11.length c0_11, .bool a0_12, .slice A0_13 l0_13.length c0_13, .bool a0_14, .int .i64 a0_15, .int .i64 a0_16, .int .i64 a0_17, .int .i64 a0_18, .int .i64 a0_19, .bool a0_20, .bool a0_21, .bool a0_22, .slice A0_23 l0_23.length c0_23, .slice (some ad197) l0_24.length c0_24, .slice A0_25 l0_25.length c0_25, .slice A0_26 l0_26.length c0_26] 34 (0, 0)) (by (with_reducible repeat (first | refine blk_drewN ?_ _ | refine blk_drew ?_ | refine blk_alloc ?_ _)); exact BK196.out) hb); have n3_ := Aside0.mk (blk_below (g := gb198) (o := .cells #[.int .i64 ((rd_T48 l0_24 x10_1).f0), .slice A197_1 ((rd_T48 l0_24 x10_1).f1).length c197_1] 48 (0, 0)) (by (with_reducible repeat (first | refine blk_drewN ?_ _ | refine blk_drew ?_ | refine blk_alloc ?_ _)); exact BK198.out) hb); have n4_ := Aside0.mk (below_step (by repeat (first | (with_reducible first | exact HB.out | apply below_alloc | apply pw_below_drewN | apply below_drew1 | refine below_set ?_ GE196.out | refine below_set ?_ GE198.out) | exact HB.out)) hb); clear HO_3; clear BK196; clear BK198; clear HB; have HO_3 := n0_; have HO202 := n1_; have BK196 := n2_; have BK198 := n3_; have HB := n4_; clear n0_ n1_ n2_ n3_ n4_; clear hb ho16; obtain ⟨Ao17, co17, eo17⟩ := Kd.R_slice HO202.out; subst eo17) | ((with_reducible refine gate_callee (f := 15) rfl ?_); refine goesL_ (some 23) rfl rfl Tryd.func15 (by kernel_rfl) rfl #[.slice Ao17 y200.length co17] rfl (by (try simp only [List.map_toArray, List.map_cons, List.map_nil]); first | done | rfl | (simp only [List.length_drop, List.length_take]; rfl)) ?_; (with_reducible refine (show_Row.calls _ _ y200 t203 _ ?side1 ?side2 A9.out).mono ?_); (case side1 => repeat (first | exact (Kd.R_reads' HO202.out).2.2 | (with_reducible refine Kd.C_alloc ?_ _) | (with_reducible refine Kd.C_drewN ?_ _) | (with_reducible refine Kd.C_drew ?_))); (case side2 => exact (Kd.R_reads' HO202.out).2.1); rintro e w18 ⟨rfl, hb⟩; refine ⟨_, rfl, ?_⟩; have n0_ := Aside0.mk (Kd.R_below (by (with_reducible repeat (first | apply Kd.R_alloc | apply Kd.R_drewN | apply Kd.R_drew)); exact HO_3.out) hb); have n1_ := Aside0.mk (Kd.R_below (by (with_reducible repeat (first | apply Kd.R_alloc | apply Kd.R_drewN | apply Kd.R_drew)); exact HO202.out) hb); have n2_ := Aside0.mk (blk_below (g := gb196) (o := .cells #[.slice A0_0 l0_0.length c0_0, .slice A0_1 l0_1.length c0_1, .bool a0_2, .int .i64 a0_3, .bool a0_4, .int .i64 a0_5, .int .i64 a0_6, .int .i64 a0_7, .int .i64 a0_8, .int .i64 a0_9, .slice A0_10 l0_10.length c0_10, .slice A0_11 l0_11.length c0_11, .bool a0_12, .slice A0_13 l0_13.length c0_13, .bool a0_14, .int .i64 a0_15, .int .i64 a0_16, .int .i64 a0_17, .int .i64 a0_18, .int .i64 a0_19, .bool a0_20, .bool a0_21, .bool a0_22, .slice A0_23 l0_23.length c0_23, .slice (some ad197) l0_24.length c0_24, .slice A0_25 l0_25.length c0_25, .slice A0_26 l0_26.length c0_26] 34 (0, 0)) (by (with_reducible repeat (first | refine blk_drewN ?_ _ | refine blk_drew ?_ | refine blk_alloc ?_ _)); exact BK196.out) hb); have n3_ := Aside0.mk (blk_below (g := gb198) (o := .cells #[.int .i64 ((rd_T48 l0_24 x10_1).f0), .slice A197_1 ((rd_T48 l0_24 x10_1).f1).length c197_1] 48 (0, 0)) (by (with_reducible repeat (first | refine blk_drewN ?_ _ | refine blk_drew ?_ | refine blk_alloc ?_ _)); exact BK198.out) hb); have n4_ := Aside0.mk (below_step (by repeat (first | (with_reducible first | exact HB.out | apply below_alloc | apply pw_below_drewN | apply below_drew1 | refine below_set ?_ GE196.out | refine below_set ?_ GE198.out) | exact HB.out)) hb); clear HO_3; clear HO202; clear BK196; clear BK198; clear HB; have HO_3 := n0_; have HO202 := n1_; have BK196 := n2_; have BK198 := n3_; have HB := n4_; clear n0_ n1_ n2_ n3_ n4_; (try clear hb); (try clear hb2); (try clear hk); (try clear hi)) | ((with_reducible refine gate_builtin (b := .append) (xs := #[.tmp 17, .tmp 24]) rfl ?_); at_builtin; refine Kd.R_append Kd.string (w0 := w) w.heap.size rfl (.tmp 17) (.tmp 24) 38 9 (.string ⟨#[]⟩) 16 rfl Tryd.underlying38 info9 rfl (by decide) (by omega) u3 x3_1 t203 [.string t203] (fun k_ => some k_ ≠ (.slice Ao17 y200.length co17 : Value).ownBlock) (fun _ => False) rfl rfl ?aP (fun _ hk => hk.elim) ?aF ?aO ?aB ?aS ?aL ?_; (case aP => exact rfl); (case aB => exact (by repeat (first | (with_reducible first | exact HB.out | apply below_alloc | apply pw_below_drewN | apply below_drew1 | refine below_set ?_ GE196.out | refine below_set ?_ GE198.out) | exact HB.out))); (case aF => exact (fun k_ hk => Kd.fresh' (Kd.R_lt (by (with_reducible repeat (first | apply Kd.R_alloc | apply Kd.R_drewN | apply Kd.R_drew)); exact HO202.out)) k_ hk)); (case aO => exact (by (with_reducible repeat (first | apply Kd.R_alloc | apply Kd.R_drewN | apply Kd.R_drew)); exact Kd.R_mono HO_3.out (fun _ hk => hk.2))); (case aS => exact (below_size (by repeat (first | (with_reducible first | exact HB.out | apply below_alloc | apply pw_below_drewN | apply below_drew1 | refine below_set ?_ GE196.out | refine below_set ?_ GE198.out) | exact HB.out)))); (case aL => have := LMc10.out; omega); intro v205 w19 ho hb hg hat; rw [← Ny204.out] at ho; have n0_ := Aside0.mk (blk_grown (g := gb196) (o := .cells #[.slice A0_0 l0_0.length c0_0, .slice A0_1 l0_1.length c0_1, .bool a0_2, .int .i64 a0_3, .bool a0_4, .int .i64 a0_5, .int .i64 a0_6, .int .i64 a0_7, .int .i64 a0_8, .int .i64 a0_9, .slice A0_10 l0_10.length c0_10, .slice A0_11 l0_11.length c0_11, .bool a0_12, .slice A0_13 l0_13.length c0_13, .bool a0_14, .int .i64 a0_15, .int .i64 a0_16, .int .i64 a0_17, .int .i64 a0_18, .int .i64 a0_19, .bool a0_20, .bool a0_21, .bool a0_22, .slice A0_23 l0_23.length c0_23, .slice (some ad197) l0_24.length c0_24, .slice A0_25 l0_25.length c0_25, .slice A0_26 l0_26.length c0_26] 34 (0, 0)) (by (with_reducible repeat (first | refine blk_drewN ?_ _ | refine blk_drew ?_ | refine blk_alloc ?_ _)); exact BK196.out) hg (Kd.R_ne HO_3.out BK196.out (by decide))); have n1_ := Aside0.mk (blk_grown (g := gb198) (o := .cells #[.int .i64 ((rd_T48 l0_24 x10_1).f0), .slice A197_1 ((rd_T48 l0_24 x10_1).f1).length c197_1] 48 (0, 0)) (by (with_reducible repeat (first | refine blk_drewN ?_ _ | refine blk_drew ?_ | refine blk_alloc ?_ _)); exact BK198.out) hg (Kd.R_ne HO_3.out BK198.out (by decide))); have n2_ := Aside0.mk (Kd.R_after (ok := (fun _ => True)) (by (with_reducible repeat (first | apply Kd.R_alloc | apply Kd.R_drewN | apply Kd.R_drew)); exact HO202.out) hg hat); have n3_ := Aside0.mk (hb); have n4_ := Aside0.mk (ho); clear BK196; clear BK198; clear HO202; clear HB; clear HO_3; have BK196 := n0_; have BK198 := n1_; have HO202 := n2_; have HB := n3_; have HO206 := n4_; clear n0_ n1_ n2_ n3_ n4_; clear ho hb hg hat))
                go_roundg k1
                case measure => have := HK1.out; omega
                case rel => exact ⟨(y204), (wrap64 (x10_1 + 1)), (by first | rfl | (simp; done) | (simp [*]; done)), H', ⟨by have := HK1.out; omega⟩, ⟨by (with_reducible repeat (first | apply Kd.R_alloc | apply Kd.R_drewN | apply Kd.R_drew)); exact Kd.R_mono HO206.out (fun _ hk => trivial)⟩, ⟨by (with_reducible repeat (first | refine blk_drewN ?_ _ | refine blk_drew ?_ | refine blk_alloc ?_ _)); exact BK196.out⟩, ⟨by repeat (first | (with_reducible first | exact HB.out | apply below_alloc | apply pw_below_drewN | apply below_drew1 | refine below_set ?_ GE196.out | refine below_set ?_ GE198.out) | exact HB.out)⟩⟩
              · rw [if_neg c10] at H
                exact absurd H (by simp)
            · rw [if_neg c7] at H
              have c7b0 : (((rd_T48 l0_24 x10_1).f0) == 1) = false := beq_eq_false_iff_ne.mpr c7
              have c7b1 : (((rd_T48 l0_24 x10_1).f0) != 1) = true := bne_iff_ne.mpr c7
              replace H := Option.bind_eq_some_iff.mp H
              obtain ⟨t207, A200, H⟩ := H
              replace H : ((show_Row.f (([(⟨#[116, 101, 120, 116]⟩ : ByteArray), t207] : List ByteArray))).bind fun t211 => (if x3_1.length < 8796093022208 then (view_waits.l0 k1 (x3_1 ++ [t211]) l0_24 (l0_24.length : Int) (wrap64 (x10_1 + 1))) else (none))) = some r := H
              have A20 := Aside0.mk A200
              clear A200
              obtain ⟨y208, hy208⟩ : ∃ y_ : List ByteArray, y_ = (([(⟨#[116, 101, 120, 116]⟩ : ByteArray), t207] : List ByteArray)) := ⟨_, rfl⟩
              replace H : ((show_Row.f y208).bind fun t211 => (if x3_1.length < 8796093022208 then (view_waits.l0 k1 (x3_1 ++ [t211]) l0_24 (l0_24.length : Int) (wrap64 (x10_1 + 1))) else (none))) = some r := by first | (rw [hy208]; with_reducible exact H) | (have H2_ := (Option.bind_some _ _).symm.trans H; rw [hy208]; with_reducible exact H2_) | (have H2_ := (Option.bind_some _ _).symm.trans H; with_reducible exact H2_) | with_reducible exact H | (rw [hy208]; exact H) | exact H
              have Ny208 := Aside0.mk hy208
              clear hy208
              replace H := Option.bind_eq_some_iff.mp H
              obtain ⟨t211, A210, H⟩ := H
              replace H : (if x3_1.length < 8796093022208 then (view_waits.l0 k1 (x3_1 ++ [t211]) l0_24 (l0_24.length : Int) (wrap64 (x10_1 + 1))) else (none)) = some r := H
              have A21 := Aside0.mk A210
              clear A210
              by_cases c22 : x3_1.length < 8796093022208
              · rw [if_pos c22] at H
                have LMc22 := Aside0.mk c22
                clear c22
                obtain ⟨y212, hy212⟩ : ∃ y_ : List ByteArray, y_ = (x3_1 ++ [t211]) := ⟨_, rfl⟩
                replace H : (view_waits.l0 k1 y212 l0_24 (l0_24.length : Int) (wrap64 (x10_1 + 1))) = some r := by first | (rw [hy212]; with_reducible exact H) | (have H2_ := (Option.bind_some _ _).symm.trans H; rw [hy212]; with_reducible exact H2_) | (have H2_ := (Option.bind_some _ _).symm.trans H; with_reducible exact H2_) | with_reducible exact H | (rw [hy212]; exact H) | exact H
                have Ny212 := Aside0.mk hy212
                clear hy212
                have H' := Aside0.mk H
                clear H
                have p197 : 0 ≤ (x10_1 : Int) := of_decide_eq_true (by first | (with_reducible assumption) | assumption)
                have q197 : x10_1 < (l0_24.length : Int) := of_decide_eq_true (by first | (with_reducible assumption) | assumption)
                obtain ⟨ad197, A197_1, c197_1, e197, hx197_0, hx197_1, hl197_1, hi197_1⟩ := at_T48 HR0_24.out x10_1 p197 q197
                cases e197
                replace hx197_0 := (HB.out.cell (World.block_lt_of_cell? w _ hx197_0)).trans hx197_0
                replace hx197_1 := (HB.out.cell (World.block_lt_of_cell? w _ hx197_1)).trans hx197_1
                have HR197_1 := Aside0.mk hi197_1
                have HC197_1 := Aside0.mk hl197_1
                clear hi197_1 hl197_1
                replace p197 := eq_true p197
                replace q197 := eq_true q197
                go_wp2_with (first | ((with_reducible refine gate_dst (N := 5) rfl ?_); refine box_event ?hg (N := 5) ?hd (cs := #[.int .i64 0, .slice none 0 0]) (t := 48) ?hr ?_; (case hd => rfl); (case hg => rfl); (case hr => first | (go_simp; done) | (go_simp; rfl)); intro gb198 hg w23 hbox hb; have n0_ := Aside0.mk (Kd.R_below (by (with_reducible repeat (first | apply Kd.R_alloc | apply Kd.R_drewN | apply Kd.R_drew)); exact HO_3.out) hb); have n1_ := Aside0.mk (blk_below (g := gb196) (o := .cells #[.slice A0_0 l0_0.length c0_0, .slice A0_1 l0_1.length c0_1, .bool a0_2, .int .i64 a0_3, .bool a0_4, .int .i64 a0_5, .int .i64 a0_6, .int .i64 a0_7, .int .i64 a0_8, .int .i64 a0_9, .slice A0_10 l0_10.length c0_10, .slice A0_11 l0_11.length c0_11, .bool a0_12, .slice A0_13 l0_13.length c0_13, .bool a0_14, .int .i64 a0_15, .int .i64 a0_16, .int .i64 a0_17, .int .i64 a0_18, .int .i64 a0_19, .bool a0_20, .bool a0_21, .bool a0_22, .slice A0_23 l0_23.length c0_23, .slice (some ad197) l0_24.length c0_24, .slice A0_25 l0_25.length c0_25, .slice A0_26 l0_26.length c0_26] 34 (0, 0)) (by (with_reducible repeat (first | refine blk_drewN ?_ _ | refine blk_drew ?_ | refine blk_alloc ?_ _)); exact BK196.out) hb); have n2_ := Aside0.mk (below_step (by repeat (first | (with_reducible first | exact HB.out | apply below_alloc | apply pw_below_drewN | apply below_drew1 | refine below_set ?_ GE196.out) | exact HB.out)) hb); have n3_ := Aside0.mk (hbox); have n4_ := Aside0.mk ((by rw [hg]; exact (below_size (by repeat (first | (with_reducible first | exact HB.out | apply below_alloc | apply pw_below_drewN | apply below_drew1 | refine below_set ?_ GE196.out) | exact HB.out))) : w.heap.size ≤ gb198)); have n5_ := Aside0.mk ((by rw [hg]; exact (below_size (by repeat (first | (with_reducible first | exact HB.out | apply below_alloc | apply pw_below_drewN | apply below_drew1 | refine below_set ?_ GE196.out) | exact HB.out))) : w.heap.size ≤ gb198)); have n6_ := Aside0.mk ((by rw [hg]; exact Nat.ne_of_lt (blk_lt (g := gb196) (o := .cells #[.slice A0_0 l0_0.length c0_0, .slice A0_1 l0_1.length c0_1, .bool a0_2, .int .i64 a0_3, .bool a0_4, .int .i64 a0_5, .int .i64 a0_6, .int .i64 a0_7, .int .i64 a0_8, .int .i64 a0_9, .slice A0_10 l0_10.length c0_10, .slice A0_11 l0_11.length c0_11, .bool a0_12, .slice A0_13 l0_13.length c0_13, .bool a0_14, .int .i64 a0_15, .int .i64 a0_16, .int .i64 a0_17, .int .i64 a0_18, .int .i64 a0_19, .bool a0_20, .bool a0_21, .bool a0_22, .slice A0_23 l0_23.length c0_23, .slice (some ad197) l0_24.length c0_24, .slice A0_25 l0_25.length c0_25, .slice A0_26 l0_26.length c0_26] 34 (0, 0)) (by (with_reducible repeat (first | refine blk_drewN ?_ _ | refine blk_drew ?_ | refine blk_alloc ?_ _)); exact BK196.out)) : gb196 ≠ gb198)); have n7_ := Aside0.mk ((by rw [hg]; exact Nat.ne_of_gt (blk_lt (g := gb196) (o := .cells #[.slice A0_0 l0_0.length c0_0, .slice A0_1 l0_1.length c0_1, .bool a0_2, .int .i64 a0_3, .bool a0_4, .int .i64 a0_5, .int .i64 a0_6, .int .i64 a0_7, .int .i64 a0_8, .int .i64 a0_9, .slice A0_10 l0_10.length c0_10, .slice A0_11 l0_11.length c0_11, .bool a0_12, .slice A0_13 l0_13.length c0_13, .bool a0_14, .int .i64 a0_15, .int .i64 a0_16, .int .i64 a0_17, .int .i64 a0_18, .int .i64 a0_19, .bool a0_20, .bool a0_21, .bool a0_22, .slice A0_23 l0_23.length c0_23, .slice (some ad197) l0_24.length c0_24, .slice A0_25 l0_25.length c0_25, .slice A0_26 l0_26.length c0_26] 34 (0, 0)) (by (with_reducible repeat (first | refine blk_drewN ?_ _ | refine blk_drew ?_ | refine blk_alloc ?_ _)); exact BK196.out)) : gb198 ≠ gb196)); clear HO_3; clear BK196; clear HB; have HO_3 := n0_; have BK196 := n1_; have HB := n2_; have BK198 := n3_; have GW198 := n4_; have GE198 := n5_; have NB196_198 := n6_; have NB198_196 := n7_; clear n0_ n1_ n2_ n3_ n4_ n5_ n6_ n7_; clear hb hbox hg; have hnb24 := NB198_196.out; have hnc24 := NB196_198.out; have hcz25_0 : w23.cell? ⟨gb198, 0, none⟩ = some (.int .i64 0) := (blk_cell BK198.out 0).trans rfl; have hcz25_1 : w23.cell? ⟨gb198, 1, none⟩ = some (.slice none 0 0) := (blk_cell BK198.out 1).trans rfl; have hfz25_0 := blk_frozen BK198.out 0; have hfz25_1 := blk_frozen BK198.out 1) | ((with_reducible refine gate_callee (f := 19) rfl ?_); refine goesL_ (some 21) rfl rfl Tryd.func19 (by kernel_rfl) rfl #[.slice A197_1 ((rd_T48 l0_24 x10_1).f1).length c197_1] rfl (by (try simp only [List.map_toArray, List.map_cons, List.map_nil]); first | done | rfl | (simp only [List.length_drop, List.length_take]; rfl)) ?_; (with_reducible refine (show_Quote.calls _ _ ((rd_T48 l0_24 x10_1).f1) t207 _ ?side1 ?side2 A20.out).mono ?_); (case side1 => exact Kd.C_below HR197_1.out (by repeat (first | (with_reducible first | exact HB.out | apply below_alloc | apply pw_below_drewN | apply below_drew1 | refine below_set ?_ GE196.out | refine below_set ?_ GE198.out) | exact HB.out))); (case side2 => exact HC197_1.out); rintro e w26 ⟨rfl, hb⟩; refine ⟨_, rfl, ?_⟩; have n0_ := Aside0.mk (Kd.R_below (by (with_reducible repeat (first | apply Kd.R_alloc | apply Kd.R_drewN | apply Kd.R_drew)); exact (Kd.R_mono (Kd.R_far (p := ⟨gb198, 1, none⟩) (Kd.R_far (p := ⟨gb198, 0, none⟩) (Kd.R_types HO_3.out BK198.out (by decide)) (fun _ hk => hk.2) (.int .i64 ((rd_T48 l0_24 x10_1).f0))) (fun _ hk => hk.2) (.slice A197_1 ((rd_T48 l0_24 x10_1).f1).length c197_1)) (fun _ h_ => h_.1))) hb); have n1_ := Aside0.mk (blk_below (g := gb196) (o := .cells #[.slice A0_0 l0_0.length c0_0, .slice A0_1 l0_1.length c0_1, .bool a0_2, .int .i64 a0_3, .bool a0_4, .int .i64 a0_5, .int .i64 a0_6, .int .i64 a0_7, .int .i64 a0_8, .int .i64 a0_9, .slice A0_10 l0_10.length c0_10, .slice A0_11 l0_11.length c0_11, .bool a0_12, .slice A0_13 l0_13.length c0_13, .bool a0_14, .int .i64 a0_15, .int .i64 a0_16, .int .i64 a0_17, .int .i64 a0_18, .int .i64 a0_19, .bool a0_20, .bool a0_21, .bool a0_22, .slice A0_23 l0_23.length c0_23, .slice (some ad197) l0_24.length c0_24, .slice A0_25 l0_25.length c0_25, .slice A0_26 l0_26.length c0_26] 34 (0, 0)) (by (with_reducible repeat (first | refine blk_drewN ?_ _ | refine blk_drew ?_ | refine blk_alloc ?_ _)); refine blk_far ?_ NB196_198.out _; (with_reducible repeat (first | refine blk_drewN ?_ _ | refine blk_drew ?_ | refine blk_alloc ?_ _)); refine blk_far ?_ NB196_198.out _; (with_reducible repeat (first | refine blk_drewN ?_ _ | refine blk_drew ?_ | refine blk_alloc ?_ _)); exact BK196.out) hb); have n2_ := Aside0.mk (blk_below (g := gb198) (o := .cells #[.int .i64 ((rd_T48 l0_24 x10_1).f0), .slice A197_1 ((rd_T48 l0_24 x10_1).f1).length c197_1] 48 (0, 0)) (by (with_reducible repeat (first | refine blk_drewN ?_ _ | refine blk_drew ?_ | refine blk_alloc ?_ _)); refine blk_put (cs := #[.int .i64 ((rd_T48 l0_24 x10_1).f0), .slice none 0 0]) ?_ 1 _ rfl; (with_reducible repeat (first | refine blk_drewN ?_ _ | refine blk_drew ?_ | refine blk_alloc ?_ _)); refine blk_put (cs := #[.int .i64 0, .slice none 0 0]) ?_ 0 _ rfl; (with_reducible repeat (first | refine blk_drewN ?_ _ | refine blk_drew ?_ | refine blk_alloc ?_ _)); exact BK198.out) hb); have n3_ := Aside0.mk (below_step (by repeat (first | (with_reducible first | exact HB.out | apply below_alloc | apply pw_below_drewN | apply below_drew1 | refine below_set ?_ GE196.out | refine below_set ?_ GE198.out) | exact HB.out)) hb); clear HO_3; clear BK196; clear BK198; clear HB; have HO_3 := n0_; have BK196 := n1_; have BK198 := n2_; have HB := n3_; clear n0_ n1_ n2_ n3_; (try clear hb); (try clear hb2); (try clear hk); (try clear hi)) | ((with_reducible refine gate_dst (N := 22) rfl ?_); refine Kd.R_lit Kd.string _ 9 ?hg (N := 22) ?hd (xs := ([(⟨#[116, 101, 120, 116]⟩ : ByteArray), t207] : List ByteArray)) (inner := [.string (⟨#[116, 101, 120, 116]⟩ : ByteArray), .string t207]) (ok := fun _ => True) (okp := fun _ => True) ?hr ?hp (fun _ hk => hk) trivial (Below.refl _ _) (Nat.le_refl _) (by simp) ?_; (case hd => rfl); (case hg => rfl); (case hr => first | (go_simp; done) | (go_simp; rfl)); (case hp => exact (Reps.one (show Kd.M Kd.string _ _ _ (⟨#[116, 101, 120, 116]⟩ : ByteArray) [.string (⟨#[116, 101, 120, 116]⟩ : ByteArray)] from rfl) (Reps.one (show Kd.M Kd.string _ _ _ t207 [.string t207] from rfl) (Reps.none _ _)))); intro v209 w27 ho28 hb hg_ hnew_; clear hg_ hnew_; (first | rw [← Ny208.out] at ho28 | (simp only [Int.reduceToNat] at ho28; rw [← Ny208.out] at ho28)); have n0_ := Aside0.mk (Kd.R_elder' (by (with_reducible repeat (first | apply Kd.R_alloc | apply Kd.R_drewN | apply Kd.R_drew)); exact HO_3.out) (Kd.R_base ho28) hb); have n1_ := Aside0.mk (Kd.R_lower (Kd.R_new' ho28 (Kd.R_lt (by (with_reducible repeat (first | apply Kd.R_alloc | apply Kd.R_drewN | apply Kd.R_drew)); exact HO_3.out))) (below_size (by repeat (first | (with_reducible first | exact HB.out | apply below_alloc | apply pw_below_drewN | apply below_drew1 | refine below_set ?_ GE196.out | refine below_set ?_ GE198.out) | exact HB.out)))); have n2_ := Aside0.mk (blk_below (g := gb196) (o := .cells #[.slice A0_0 l0_0.length c0_0, .slice A0_1 l0_1.length c0_1, .bool a0_2, .int .i64 a0_3, .bool a0_4, .int .i64 a0_5, .int .i64 a0_6, .int .i64 a0_7, .int .i64 a0_8, .int .i64 a0_9, .slice A0_10 l0_10.length c0_10, .slice A0_11 l0_11.length c0_11, .bool a0_12, .slice A0_13 l0_13.length c0_13, .bool a0_14, .int .i64 a0_15, .int .i64 a0_16, .int .i64 a0_17, .int .i64 a0_18, .int .i64 a0_19, .bool a0_20, .bool a0_21, .bool a0_22, .slice A0_23 l0_23.length c0_23, .slice (some ad197) l0_24.length c0_24, .slice A0_25 l0_25.length c0_25, .slice A0_26 l0_26.length c0_26] 34 (0, 0)) (by (with_reducible repeat (first | refine blk_drewN ?_ _ | refine blk_drew ?_ | refine blk_alloc ?_ _)); exact BK196.out) hb); have n3_ := Aside0.mk (blk_below (g := gb198) (o := .cells #[.int .i64 ((rd_T48 l0_24 x10_1).f0), .slice A197_1 ((rd_T48 l0_24 x10_1).f1).length c197_1] 48 (0, 0)) (by (with_reducible repeat (first | refine blk_drewN ?_ _ | refine blk_drew ?_ | refine blk_alloc ?_ _)); exact BK198.out) hb); have n4_ := Aside0.mk (below_step (by repeat (first | (with_reducible first | exact HB.out | apply below_alloc | apply pw_below_drewN | apply below_drew1 | refine below_set ?_ GE196.out | refine below_set ?_ GE198.out) | exact HB.out)) hb); clear HO_3; clear BK196; clear BK198; clear HB; have HO_3 := n0_; have HO210 := n1_; have BK196 := n2_; have BK198 := n3_; have HB := n4_; clear n0_ n1_ n2_ n3_ n4_; clear hb ho28; obtain ⟨Ao29, co29, eo29⟩ := Kd.R_slice HO210.out; subst eo29) | ((with_reducible refine gate_callee (f := 15) rfl ?_); refine goesL_ (some 23) rfl rfl Tryd.func15 (by kernel_rfl) rfl #[.slice Ao29 y208.length co29] rfl (by (try simp only [List.map_toArray, List.map_cons, List.map_nil]); first | done | rfl | (simp only [List.length_drop, List.length_take]; rfl)) ?_; (with_reducible refine (show_Row.calls _ _ y208 t211 _ ?side1 ?side2 A21.out).mono ?_); (case side1 => repeat (first | exact (Kd.R_reads' HO210.out).2.2 | (with_reducible refine Kd.C_alloc ?_ _) | (with_reducible refine Kd.C_drewN ?_ _) | (with_reducible refine Kd.C_drew ?_))); (case side2 => exact (Kd.R_reads' HO210.out).2.1); rintro e w30 ⟨rfl, hb⟩; refine ⟨_, rfl, ?_⟩; have n0_ := Aside0.mk (Kd.R_below (by (with_reducible repeat (first | apply Kd.R_alloc | apply Kd.R_drewN | apply Kd.R_drew)); exact HO_3.out) hb); have n1_ := Aside0.mk (Kd.R_below (by (with_reducible repeat (first | apply Kd.R_alloc | apply Kd.R_drewN | apply Kd.R_drew)); exact HO210.out) hb); have n2_ := Aside0.mk (blk_below (g := gb196) (o := .cells #[.slice A0_0 l0_0.length c0_0, .slice A0_1 l0_1.length c0_1, .bool a0_2, .int .i64 a0_3, .bool a0_4, .int .i64 a0_5, .int .i64 a0_6, .int .i64 a0_7, .int .i64 a0_8, .int .i64 a0_9, .slice A0_10 l0_10.length c0_10, .slice A0_11 l0_11.length c0_11, .bool a0_12, .slice A0_13 l0_13.length c0_13, .bool a0_14, .int .i64 a0_15, .int .i64 a0_16, .int .i64 a0_17, .int .i64 a0_18, .int .i64 a0_19, .bool a0_20, .bool a0_21, .bool a0_22, .slice A0_23 l0_23.length c0_23, .slice (some ad197) l0_24.length c0_24, .slice A0_25 l0_25.length c0_25, .slice A0_26 l0_26.length c0_26] 34 (0, 0)) (by (with_reducible repeat (first | refine blk_drewN ?_ _ | refine blk_drew ?_ | refine blk_alloc ?_ _)); exact BK196.out) hb); have n3_ := Aside0.mk (blk_below (g := gb198) (o := .cells #[.int .i64 ((rd_T48 l0_24 x10_1).f0), .slice A197_1 ((rd_T48 l0_24 x10_1).f1).length c197_1] 48 (0, 0)) (by (with_reducible repeat (first | refine blk_drewN ?_ _ | refine blk_drew ?_ | refine blk_alloc ?_ _)); exact BK198.out) hb); have n4_ := Aside0.mk (below_step (by repeat (first | (with_reducible first | exact HB.out | apply below_alloc | apply pw_below_drewN | apply below_drew1 | refine below_set ?_ GE196.out | refine below_set ?_ GE198.out) | exact HB.out)) hb); clear HO_3; clear HO210; clear BK196; clear BK198; clear HB; have HO_3 := n0_; have HO210 := n1_; have BK196 := n2_; have BK198 := n3_; have HB := n4_; clear n0_ n1_ n2_ n3_ n4_; (try clear hb); (try clear hb2); (try clear hk); (try clear hi)) | ((with_reducible refine gate_builtin (b := .append) (xs := #[.tmp 17, .tmp 24]) rfl ?_); at_builtin; refine Kd.R_append Kd.string (w0 := w) w.heap.size rfl (.tmp 17) (.tmp 24) 38 9 (.string ⟨#[]⟩) 16 rfl Tryd.underlying38 info9 rfl (by decide) (by omega) u3 x3_1 t211 [.string t211] (fun k_ => some k_ ≠ (.slice Ao29 y208.length co29 : Value).ownBlock) (fun _ => False) rfl rfl ?aP (fun _ hk => hk.elim) ?aF ?aO ?aB ?aS ?aL ?_; (case aP => exact rfl); (case aB => exact (by repeat (first | (with_reducible first | exact HB.out | apply below_alloc | apply pw_below_drewN | apply below_drew1 | refine below_set ?_ GE196.out | refine below_set ?_ GE198.out) | exact HB.out))); (case aF => exact (fun k_ hk => Kd.fresh' (Kd.R_lt (by (with_reducible repeat (first | apply Kd.R_alloc | apply Kd.R_drewN | apply Kd.R_drew)); exact HO210.out)) k_ hk)); (case aO => exact (by (with_reducible repeat (first | apply Kd.R_alloc | apply Kd.R_drewN | apply Kd.R_drew)); exact Kd.R_mono HO_3.out (fun _ hk => hk.2))); (case aS => exact (below_size (by repeat (first | (with_reducible first | exact HB.out | apply below_alloc | apply pw_below_drewN | apply below_drew1 | refine below_set ?_ GE196.out | refine below_set ?_ GE198.out) | exact HB.out)))); (case aL => have := LMc22.out; omega); intro v213 w31 ho hb hg hat; rw [← Ny212.out] at ho; have n0_ := Aside0.mk (blk_grown (g := gb196) (o := .cells #[.slice A0_0 l0_0.length c0_0, .slice A0_1 l0_1.length c0_1, .bool a0_2, .int .i64 a0_3, .bool a0_4, .int .i64 a0_5, .int .i64 a0_6, .int .i64 a0_7, .int .i64 a0_8, .int .i64 a0_9, .slice A0_10 l0_10.length c0_10, .slice A0_11 l0_11.length c0_11, .bool a0_12, .slice A0_13 l0_13.length c0_13, .bool a0_14, .int .i64 a0_15, .int .i64 a0_16, .int .i64 a0_17, .int .i64 a0_18, .int .i64 a0_19, .bool a0_20, .bool a0_21, .bool a0_22, .slice A0_23 l0_23.length c0_23, .slice (some ad197) l0_24.length c0_24, .slice A0_25 l0_25.length c0_25, .slice A0_26 l0_26.length c0_26] 34 (0, 0)) (by (with_reducible repeat (first | refine blk_drewN ?_ _ | refine blk_drew ?_ | refine blk_alloc ?_ _)); exact BK196.out) hg (Kd.R_ne HO_3.out BK196.out (by decide))); have n1_ := Aside0.mk (blk_grown (g := gb198) (o := .cells #[.int .i64 ((rd_T48 l0_24 x10_1).f0), .slice A197_1 ((rd_T48 l0_24 x10_1).f1).length c197_1] 48 (0, 0)) (by (with_reducible repeat (first | refine blk_drewN ?_ _ | refine blk_drew ?_ | refine blk_alloc ?_ _)); exact BK198.out) hg (Kd.R_ne HO_3.out BK198.out (by decide))); have n2_ := Aside0.mk (Kd.R_after (ok := (fun _ => True)) (by (with_reducible repeat (first | apply Kd.R_alloc | apply Kd.R_drewN | apply Kd.R_drew)); exact HO210.out) hg hat); have n3_ := Aside0.mk (hb); have n4_ := Aside0.mk (ho); clear BK196; clear BK198; clear HO210; clear HB; clear HO_3; have BK196 := n0_; have BK198 := n1_; have HO210 := n2_; have HB := n3_; have HO214 := n4_; clear n0_ n1_ n2_ n3_ n4_; clear ho hb hg hat))
                go_roundg k1
                case measure => have := HK1.out; omega
                case rel => exact ⟨(y212), (wrap64 (x10_1 + 1)), (by first | rfl | (simp; done) | (simp [*]; done)), H', ⟨by have := HK1.out; omega⟩, ⟨by (with_reducible repeat (first | apply Kd.R_alloc | apply Kd.R_drewN | apply Kd.R_drew)); exact Kd.R_mono HO214.out (fun _ hk => trivial)⟩, ⟨by (with_reducible repeat (first | refine blk_drewN ?_ _ | refine blk_drew ?_ | refine blk_alloc ?_ _)); exact BK196.out⟩, ⟨by repeat (first | (with_reducible first | exact HB.out | apply below_alloc | apply pw_below_drewN | apply below_drew1 | refine below_set ?_ GE196.out | refine below_set ?_ GE198.out) | exact HB.out)⟩⟩
              · rw [if_neg c22] at H
                exact absurd H (by simp)
          · rw [if_neg c6] at H
            exact absurd H (by simp)
        · rw [if_neg c5] at H
          exact absurd H (by simp)
      · rw [if_neg c4] at H
        have c4b0 : decide (x10_1 < (l0_24.length : Int)) = false := decide_eq_false c4
        clear c4
        obtain rfl := Option.some.inj H
        go_wp2
        go_ret
        exact ⟨_, by first | rfl | (simp [errW_none, errW_some] <;> rfl) | (simp [*, errW_none, errW_some] <;> rfl), by (with_reducible repeat (first | apply Kd.R_alloc | apply Kd.R_drewN | apply Kd.R_drew)); exact HO_3.out, by repeat (first | (with_reducible first | exact HB.out | apply below_alloc | apply pw_below_drewN | apply below_drew1 | refine below_set ?_ GE196.out) | exact HB.out)⟩

end Go.Proofs.YtfoijbcdbcehiaaDoor.PViewStates
