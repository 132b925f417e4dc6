-- Written by a program (wip/tools/myprint.py over the kit's print): the functions that are proved by hand stand in YtfoijbcdbcehiaaDoorHViewStates
import Derived.Test.YtfoijbcdbcehiaaDoorPViewStatesx0
import Derived.Test.YtfoijbcdbcehiaaDoorPViewStatesx2
namespace Go.Proofs.YtfoijbcdbcehiaaDoor.PViewStates
open Go.RowKit Go.Proofs.YtfoijbcdbcehiaaDoorW.PrintWords Go.Proofs.YtfoijbcdbcehiaaDoorW.PrintLast Go.Proofs.YtfoijbcdbcehiaaDoorW.PrintMore
attribute [local go_sem] max2_int min2_int max_two min_two max_three min_three max_four min_four   -- for this text's walks alone
set_option linter.unusedVariables false
set_option linter.unusedSimpArgs false

/-! ### view_Where: function 6 -/
def view_Where.f (a0 : Int) (l1_0 : List Int) (l1_1 : List Int) (a1_2 : Bool) (a1_3 : Int) (a1_4 : Bool) (a1_5 : Int) (a1_6 : Int) (a1_7 : Int) (a1_8 : Int) (a1_9 : Int) (l1_10 : List Int) (l1_11 : List Int) (a1_12 : Bool) (l1_13 : List Int) (a1_14 : Bool) (a1_15 : Int) (a1_16 : Int) (a1_17 : Int) (a1_18 : Int) (a1_19 : Int) (a1_20 : Bool) (a1_21 : Bool) (a1_22 : Bool) (l1_23 : List Bool) (l1_24 : List (S48)) (l1_25 : List (S43)) (l1_26 : List Bool) : Option (ByteArray) := (digit_Text.f a0).bind fun t132 => ((digit_Text.f a1_3).bind fun t133 => ((digit_Text.f a1_16).bind fun t134 => ((view_phase.f a1_15).bind fun t135 => ((some (([(⟨#[115, 116, 101, 112]⟩ : ByteArray), t132, (⟨#[108, 105, 110, 101]⟩ : ByteArray), t133, (⟨#[112, 99]⟩ : ByteArray), t134, (⟨#[112, 104, 97, 115, 101]⟩ : ByteArray), t135] : List ByteArray) : List ByteArray)).bind fun y136 => (if a1_15 = 3 then ((digit_Text.f a1_17).bind fun t139 => ((some (([(⟨#[101, 120, 105, 116]⟩ : ByteArray), t139] : List ByteArray) : List ByteArray)).bind fun y140 => (if y136.length + y140.length < 8796093022208 then ((some (y136 ++ y140 : List ByteArray)).bind fun y143 => (if a1_19 = 0 then ((show_Row.f y143).bind fun t146 => (some t146)) else ((digit_Text.f a1_19).bind fun t147 => ((digit_Text.f a1_18).bind fun t148 => ((some (([(⟨#[101, 114, 114, 111, 114]⟩ : ByteArray), t147, (⟨#[97, 116]⟩ : ByteArray), t148] : List ByteArray) : List ByteArray)).bind fun y149 => (if y143.length + y149.length < 8796093022208 then ((show_Row.f (y143 ++ y149)).bind fun t155 => (some t155)) else (none))))))) else (none)))) else ((show_Row.f y136).bind fun t156 => (some t156)))))))
def view_Where.T1 : Bool × List (List Nat × List Nat) := (true, [([], []), ([0], [0]), ([], []), ([2], [2]), ([3], [3]), ([4, 1], [4]), ([], []), ([6], [6]), ([7, 5], [7]), ([], []), ([9], [9]), ([10, 8], [10]), ([1, 5, 8, 11], [1, 5, 8, 11]), ([12, 11, 0, 1, 2, 3, 4, 5, 6, 7, 8, 9, 10, 11, 12], [12])])
def view_Where.B1 : List Nat := [0, 1, 0, 4, 12, 31, 0, 64, 255, 0, 512, 2047, 4095, 8191]
theorem view_Where.tab1 : rtab .any (opsOf Tryd.f6 1) = view_Where.T1 := by kernel_rfl
theorem view_Where.bits1 : waitsOk view_Where.T1.2 view_Where.B1 = true := by kernel_rfl
def view_Where.T5 : Bool × List (List Nat × List Nat) := (true, [([], []), ([], []), ([1], [1]), ([2], [2]), ([], []), ([4], [4]), ([5, 3], [5]), ([3, 6], [3, 6]), ([0, 7, 6], [0, 7]), ([8, 8, 0, 1, 2, 3, 4, 5, 6, 7, 8], [0, 8])])
def view_Where.B5 : List Nat := [0, 0, 2, 6, 0, 16, 62, 126, 255, 511]
theorem view_Where.tab5 : rtab .any (opsOf Tryd.f6 5) = view_Where.T5 := by kernel_rfl
theorem view_Where.bits5 : waitsOk view_Where.T5.2 view_Where.B5 = true := by kernel_rfl
set_option maxHeartbeats 8000000 in
set_option maxRecDepth 100000 in
theorem view_Where.calls (a0 : Int) (A1_0 : Option Addr) (c1_0 : Nat) (l1_0 : List Int) (A1_1 : Option Addr) (c1_1 : Nat) (l1_1 : List Int) (a1_2 : Bool) (a1_3 : Int) (a1_4 : Bool) (a1_5 : Int) (a1_6 : Int) (a1_7 : Int) (a1_8 : Int) (a1_9 : Int) (A1_10 : Option Addr) (c1_10 : Nat) (l1_10 : List Int) (A1_11 : Option Addr) (c1_11 : Nat) (l1_11 : List Int) (a1_12 : Bool) (A1_13 : Option Addr) (c1_13 : Nat) (l1_13 : List Int) (a1_14 : Bool) (a1_15 : Int) (a1_16 : Int) (a1_17 : Int) (a1_18 : Int) (a1_19 : Int) (a1_20 : Bool) (a1_21 : Bool) (a1_22 : Bool) (A1_23 : Option Addr) (c1_23 : Nat) (l1_23 : List Bool) (A1_24 : Option Addr) (c1_24 : Nat) (l1_24 : List (S48)) (A1_25 : Option Addr) (c1_25 : Nat) (l1_25 : List (S43)) (A1_26 : Option Addr) (c1_26 : Nat) (l1_26 : List Bool) (r : ByteArray) (w : World) (hr1_0 : Kd.C (Kd.int .u8) w A1_0 l1_0.length l1_0) (hc1_0 : l1_0.length ≤ c1_0) (hr1_1 : Kd.C (Kd.int .u8) w A1_1 l1_1.length l1_1) (hc1_1 : l1_1.length ≤ c1_1) (hr1_10 : Kd.C (Kd.int .u8) w A1_10 l1_10.length l1_10) (hc1_10 : l1_10.length ≤ c1_10) (hr1_11 : Kd.C (Kd.int .u8) w A1_11 l1_11.length l1_11) (hc1_11 : l1_11.length ≤ c1_11) (hr1_13 : Kd.C (Kd.int .u8) w A1_13 l1_13.length l1_13) (hc1_13 : l1_13.length ≤ c1_13) (hr1_23 : Kd.C Kd.bool w A1_23 l1_23.length l1_23) (hc1_23 : l1_23.length ≤ c1_23) (hr1_24 : Kd.C k48 w A1_24 l1_24.length l1_24) (hc1_24 : l1_24.length ≤ c1_24) (hr1_25 : Kd.C k43 w A1_25 l1_25.length l1_25) (hc1_25 : l1_25.length ≤ c1_25) (hr1_26 : Kd.C Kd.bool w A1_26 l1_26.length l1_26) (hc1_26 : l1_26.length ≤ c1_26) (TW_ : Go.Proofs.YtfoijbcdbcehiaaDoor.L4.Tb w) (h : view_Where.f a0 l1_0 l1_1 a1_2 a1_3 a1_4 a1_5 a1_6 a1_7 a1_8 a1_9 l1_10 l1_11 a1_12 l1_13 a1_14 a1_15 a1_16 a1_17 a1_18 a1_19 a1_20 a1_21 a1_22 l1_23 l1_24 l1_25 l1_26 = some r) :
    Calls Tryd.prog 6 #[.int .i64 a0, .agg #[.slice A1_0 l1_0.length c1_0, .slice A1_1 l1_1.length c1_1, .bool a1_2, .int .i64 a1_3, .bool a1_4, .int .i64 a1_5, .int .i64 a1_6, .int .i64 a1_7, .int .i64 a1_8, .int .i64 a1_9, .slice A1_10 l1_10.length c1_10, .slice A1_11 l1_11.length c1_11, .bool a1_12, .slice A1_13 l1_13.length c1_13, .bool a1_14, .int .i64 a1_15, .int .i64 a1_16, .int .i64 a1_17, .int .i64 a1_18, .int .i64 a1_19, .bool a1_20, .bool a1_21, .bool a1_22, .slice A1_23 l1_23.length c1_23, .slice A1_24 l1_24.length c1_24, .slice A1_25 l1_25.length c1_25, .slice A1_26 l1_26.length c1_26]] w fun e w' => e = .returned (.string r) ∧ Below w.heap.size w w' := by
  have TW0_ := Go.Proofs.YtfoijbcdbcehiaaDoorW.PrintWords.Aside0.mk TW_
  clear TW_
  have hu34 := Tryd.underlying34
  have HR1_0 := Aside0.mk hr1_0
  have HC1_0 := Aside0.mk hc1_0
  clear hr1_0 hc1_0
  have HR1_1 := Aside0.mk hr1_1
  have HC1_1 := Aside0.mk hc1_1
  clear hr1_1 hc1_1
  have HR1_10 := Aside0.mk hr1_10
  have HC1_10 := Aside0.mk hc1_10
  clear hr1_10 hc1_10
  have HR1_11 := Aside0.mk hr1_11
  have HC1_11 := Aside0.mk hc1_11
  clear hr1_11 hc1_11
  have HR1_13 := Aside0.mk hr1_13
  have HC1_13 := Aside0.mk hc1_13
  clear hr1_13 hc1_13
  have HR1_23 := Aside0.mk hr1_23
  have HC1_23 := Aside0.mk hc1_23
  clear hr1_23 hc1_23
  have HR1_24 := Aside0.mk hr1_24
  have HC1_24 := Aside0.mk hc1_24
  clear hr1_24 hc1_24
  have HR1_25 := Aside0.mk hr1_25
  have HC1_25 := Aside0.mk hc1_25
  clear hr1_25 hc1_25
  have HR1_26 := Aside0.mk hr1_26
  have HC1_26 := Aside0.mk hc1_26
  clear hr1_26 hc1_26
  have HB := Aside0.mk (Below.refl w.heap.size w)
  have H : ((digit_Text.f a0).bind fun t132 => ((digit_Text.f a1_3).bind fun t133 => ((digit_Text.f a1_16).bind fun t134 => ((view_phase.f a1_15).bind fun t135 => ((some (([(⟨#[115, 116, 101, 112]⟩ : ByteArray), t132, (⟨#[108, 105, 110, 101]⟩ : ByteArray), t133, (⟨#[112, 99]⟩ : ByteArray), t134, (⟨#[112, 104, 97, 115, 101]⟩ : ByteArray), t135] : List ByteArray) : List ByteArray)).bind fun y136 => (if a1_15 = 3 then ((digit_Text.f a1_17).bind fun t139 => ((some (([(⟨#[101, 120, 105, 116]⟩ : ByteArray), t139] : List ByteArray) : List ByteArray)).bind fun y140 => (if y136.length + y140.length < 8796093022208 then ((some (y136 ++ y140 : List ByteArray)).bind fun y143 => (if a1_19 = 0 then ((show_Row.f y143).bind fun t146 => (some t146)) else ((digit_Text.f a1_19).bind fun t147 => ((digit_Text.f a1_18).bind fun t148 => ((some (([(⟨#[101, 114, 114, 111, 114]⟩ : ByteArray), t147, (⟨#[97, 116]⟩ : ByteArray), t148] : List ByteArray) : List ByteArray)).bind fun y149 => (if y143.length + y149.length < 8796093022208 then ((show_Row.f (y143 ++ y149)).bind fun t155 => (some t155)) else (none))))))) else (none)))) else ((show_Row.f y136).bind fun t156 => (some t156)))))))) = some r := h
  clear h
  replace H := Option.bind_eq_some_iff.mp H
  obtain ⟨t132, A30, H⟩ := H
  replace H : ((digit_Text.f a1_3).bind fun t133 => ((digit_Text.f a1_16).bind fun t134 => ((view_phase.f a1_15).bind fun t135 => ((some (([(⟨#[115, 116, 101, 112]⟩ : ByteArray), t132, (⟨#[108, 105, 110, 101]⟩ : ByteArray), t133, (⟨#[112, 99]⟩ : ByteArray), t134, (⟨#[112, 104, 97, 115, 101]⟩ : ByteArray), t135] : List ByteArray) : List ByteArray)).bind fun y136 => (if a1_15 = 3 then ((digit_Text.f a1_17).bind fun t139 => ((some (([(⟨#[101, 120, 105, 116]⟩ : ByteArray), t139] : List ByteArray) : List ByteArray)).bind fun y140 => (if y136.length + y140.length < 8796093022208 then ((some (y136 ++ y140 : List ByteArray)).bind fun y143 => (if a1_19 = 0 then ((show_Row.f y143).bind fun t146 => (some t146)) else ((digit_Text.f a1_19).bind fun t147 => ((digit_Text.f a1_18).bind fun t148 => ((some (([(⟨#[101, 114, 114, 111, 114]⟩ : ByteArray), t147, (⟨#[97, 116]⟩ : ByteArray), t148] : List ByteArray) : List ByteArray)).bind fun y149 => (if y143.length + y149.length < 8796093022208 then ((show_Row.f (y143 ++ y149)).bind fun t155 => (some t155)) else (none))))))) else (none)))) else ((show_Row.f y136).bind fun t156 => (some t156))))))) = some r := H
  have A3 := Aside0.mk A30
  clear A30
  replace H := Option.bind_eq_some_iff.mp H
  obtain ⟨t133, A40, H⟩ := H
  replace H : ((digit_Text.f a1_16).bind fun t134 => ((view_phase.f a1_15).bind fun t135 => ((some (([(⟨#[115, 116, 101, 112]⟩ : ByteArray), t132, (⟨#[108, 105, 110, 101]⟩ : ByteArray), t133, (⟨#[112, 99]⟩ : ByteArray), t134, (⟨#[112, 104, 97, 115, 101]⟩ : ByteArray), t135] : List ByteArray) : List ByteArray)).bind fun y136 => (if a1_15 = 3 then ((digit_Text.f a1_17).bind fun t139 => ((some (([(⟨#[101, 120, 105, 116]⟩ : ByteArray), t139] : List ByteArray) : List ByteArray)).bind fun y140 => (if y136.length + y140.length < 8796093022208 then ((some (y136 ++ y140 : List ByteArray)).bind fun y143 => (if a1_19 = 0 then ((show_Row.f y143).bind fun t146 => (some t146)) else ((digit_Text.f a1_19).bind fun t147 => ((digit_Text.f a1_18).bind fun t148 => ((some (([(⟨#[101, 114, 114, 111, 114]⟩ : ByteArray), t147, (⟨#[97, 116]⟩ : ByteArray), t148] : List ByteArray) : List ByteArray)).bind fun y149 => (if y143.length + y149.length < 8796093022208 then ((show_Row.f (y143 ++ y149)).bind fun t155 => (some t155)) else (none))))))) else (none)))) else ((show_Row.f y136).bind fun t156 => (some t156)))))) = some r := H
  have A4 := Aside0.mk A40
  clear A40
  replace H := Option.bind_eq_some_iff.mp H
  obtain ⟨t134, A50, H⟩ := H
  replace H : ((view_phase.f a1_15).bind fun t135 => ((some (([(⟨#[115, 116, 101, 112]⟩ : ByteArray), t132, (⟨#[108, 105, 110, 101]⟩ : ByteArray), t133, (⟨#[112, 99]⟩ : ByteArray), t134, (⟨#[112, 104, 97, 115, 101]⟩ : ByteArray), t135] : List ByteArray) : List ByteArray)).bind fun y136 => (if a1_15 = 3 then ((digit_Text.f a1_17).bind fun t139 => ((some (([(⟨#[101, 120, 105, 116]⟩ : ByteArray), t139] : List ByteArray) : List ByteArray)).bind fun y140 => (if y136.length + y140.length < 8796093022208 then ((some (y136 ++ y140 : List ByteArray)).bind fun y143 => (if a1_19 = 0 then ((show_Row.f y143).bind fun t146 => (some t146)) else ((digit_Text.f a1_19).bind fun t147 => ((digit_Text.f a1_18).bind fun t148 => ((some (([(⟨#[101, 114, 114, 111, 114]⟩ : ByteArray), t147, (⟨#[97, 116]⟩ : ByteArray), t148] : List ByteArray) : List ByteArray)).bind fun y149 => (if y143.length + y149.length < 8796093022208 then ((show_Row.f (y143 ++ y149)).bind fun t155 => (some t155)) else (none))))))) else (none)))) else ((show_Row.f y136).bind fun t156 => (some t156))))) = some r := H
  have A5 := Aside0.mk A50
  clear A50
  replace H := Option.bind_eq_some_iff.mp H
  obtain ⟨t135, A60, H⟩ := H
  replace H : ((some (([(⟨#[115, 116, 101, 112]⟩ : ByteArray), t132, (⟨#[108, 105, 110, 101]⟩ : ByteArray), t133, (⟨#[112, 99]⟩ : ByteArray), t134, (⟨#[112, 104, 97, 115, 101]⟩ : ByteArray), t135] : List ByteArray) : List ByteArray)).bind fun y136 => (if a1_15 = 3 then ((digit_Text.f a1_17).bind fun t139 => ((some (([(⟨#[101, 120, 105, 116]⟩ : ByteArray), t139] : List ByteArray) : List ByteArray)).bind fun y140 => (if y136.length + y140.length < 8796093022208 then ((some (y136 ++ y140 : List ByteArray)).bind fun y143 => (if a1_19 = 0 then ((show_Row.f y143).bind fun t146 => (some t146)) else ((digit_Text.f a1_19).bind fun t147 => ((digit_Text.f a1_18).bind fun t148 => ((some (([(⟨#[101, 114, 114, 111, 114]⟩ : ByteArray), t147, (⟨#[97, 116]⟩ : ByteArray), t148] : List ByteArray) : List ByteArray)).bind fun y149 => (if y143.length + y149.length < 8796093022208 then ((show_Row.f (y143 ++ y149)).bind fun t155 => (some t155)) else (none))))))) else (none)))) else ((show_Row.f y136).bind fun t156 => (some t156)))) = some r := H
  have A6 := Aside0.mk A60
  clear A60
  obtain ⟨y136, hy136⟩ : ∃ y_ : List ByteArray, y_ = (([(⟨#[115, 116, 101, 112]⟩ : ByteArray), t132, (⟨#[108, 105, 110, 101]⟩ : ByteArray), t133, (⟨#[112, 99]⟩ : ByteArray), t134, (⟨#[112, 104, 97, 115, 101]⟩ : ByteArray), t135] : List ByteArray)) := ⟨_, rfl⟩
  replace H : (if a1_15 = 3 then ((digit_Text.f a1_17).bind fun t139 => ((some (([(⟨#[101, 120, 105, 116]⟩ : ByteArray), t139] : List ByteArray) : List ByteArray)).bind fun y140 => (if y136.length + y140.length < 8796093022208 then ((some (y136 ++ y140 : List ByteArray)).bind fun y143 => (if a1_19 = 0 then ((show_Row.f y143).bind fun t146 => (some t146)) else ((digit_Text.f a1_19).bind fun t147 => ((digit_Text.f a1_18).bind fun t148 => ((some (([(⟨#[101, 114, 114, 111, 114]⟩ : ByteArray), t147, (⟨#[97, 116]⟩ : ByteArray), t148] : List ByteArray) : List ByteArray)).bind fun y149 => (if y143.length + y149.length < 8796093022208 then ((show_Row.f (y143 ++ y149)).bind fun t155 => (some t155)) else (none))))))) else (none)))) else ((show_Row.f y136).bind fun t156 => (some t156))) = some r := by first | (rw [hy136]; with_reducible exact H) | (have H2_ := (Option.bind_some _ _).symm.trans H; rw [hy136]; with_reducible exact H2_) | (have H2_ := (Option.bind_some _ _).symm.trans H; with_reducible exact H2_) | with_reducible exact H | (rw [hy136]; exact H) | exact H
  have Ny136 := Aside0.mk hy136
  clear hy136
  by_cases c7 : a1_15 = 3
  · rw [if_pos c7] at H
    have c7b0 : (a1_15 == 3) = true := beq_iff_eq.mpr c7
    have c7b1 : (a1_15 != 3) = false := bne_eq_false_iff_eq.mpr c7
    clear c7
    replace H := Option.bind_eq_some_iff.mp H
    obtain ⟨t139, A80, H⟩ := H
    replace H : ((some (([(⟨#[101, 120, 105, 116]⟩ : ByteArray), t139] : List ByteArray) : List ByteArray)).bind fun y140 => (if y136.length + y140.length < 8796093022208 then ((some (y136 ++ y140 : List ByteArray)).bind fun y143 => (if a1_19 = 0 then ((show_Row.f y143).bind fun t146 => (some t146)) else ((digit_Text.f a1_19).bind fun t147 => ((digit_Text.f a1_18).bind fun t148 => ((some (([(⟨#[101, 114, 114, 111, 114]⟩ : ByteArray), t147, (⟨#[97, 116]⟩ : ByteArray), t148] : List ByteArray) : List ByteArray)).bind fun y149 => (if y143.length + y149.length < 8796093022208 then ((show_Row.f (y143 ++ y149)).bind fun t155 => (some t155)) else (none))))))) else (none))) = some r := H
    have A8 := Aside0.mk A80
    clear A80
    obtain ⟨y140, hy140⟩ : ∃ y_ : List ByteArray, y_ = (([(⟨#[101, 120, 105, 116]⟩ : ByteArray), t139] : List ByteArray)) := ⟨_, rfl⟩
    replace H : (if y136.length + y140.length < 8796093022208 then ((some (y136 ++ y140 : List ByteArray)).bind fun y143 => (if a1_19 = 0 then ((show_Row.f y143).bind fun t146 => (some t146)) else ((digit_Text.f a1_19).bind fun t147 => ((digit_Text.f a1_18).bind fun t148 => ((some (([(⟨#[101, 114, 114, 111, 114]⟩ : ByteArray), t147, (⟨#[97, 116]⟩ : ByteArray), t148] : List ByteArray) : List ByteArray)).bind fun y149 => (if y143.length + y149.length < 8796093022208 then ((show_Row.f (y143 ++ y149)).bind fun t155 => (some t155)) else (none))))))) else (none)) = some r := by first | (rw [hy140]; with_reducible exact H) | (have H2_ := (Option.bind_some _ _).symm.trans H; rw [hy140]; with_reducible exact H2_) | (have H2_ := (Option.bind_some _ _).symm.trans H; with_reducible exact H2_) | with_reducible exact H | (rw [hy140]; exact H) | exact H
    have Ny140 := Aside0.mk hy140
    clear hy140
    by_cases c9 : y136.length + y140.length < 8796093022208
    · rw [if_pos c9] at H
      have LMc9 := Aside0.mk c9
      clear c9
      obtain ⟨y143, hy143⟩ : ∃ y_ : List ByteArray, y_ = (y136 ++ y140) := ⟨_, rfl⟩
      replace H : (if a1_19 = 0 then ((show_Row.f y143).bind fun t146 => (some t146)) else ((digit_Text.f a1_19).bind fun t147 => ((digit_Text.f a1_18).bind fun t148 => ((some (([(⟨#[101, 114, 114, 111, 114]⟩ : ByteArray), t147, (⟨#[97, 116]⟩ : ByteArray), t148] : List ByteArray) : List ByteArray)).bind fun y149 => (if y143.length + y149.length < 8796093022208 then ((show_Row.f (y143 ++ y149)).bind fun t155 => (some t155)) else (none)))))) = some r := by first | (rw [hy143]; with_reducible exact H) | (have H2_ := (Option.bind_some _ _).symm.trans H; rw [hy143]; with_reducible exact H2_) | (have H2_ := (Option.bind_some _ _).symm.trans H; with_reducible exact H2_) | with_reducible exact H | (rw [hy143]; exact H) | exact H
      have Ny143 := Aside0.mk hy143
      clear hy143
      by_cases c10 : a1_19 = 0
      · rw [if_pos c10] at H
        have c10b0 : (a1_19 == 0) = true := beq_iff_eq.mpr c10
        have c10b1 : (a1_19 != 0) = false := bne_eq_false_iff_eq.mpr c10
        clear c10
        replace H := Option.bind_eq_some_iff.mp H
        obtain ⟨t146, A110, H⟩ := H
        replace H : (some t146) = some r := H
        have A11 := Aside0.mk A110
        clear A110
        obtain rfl := Option.some.inj H
        go_enter Tryd.func6, Tryd.ntmps6
        try go_wp2_with (first | ((with_reducible refine gate_dst (N := 3) rfl ?_); refine box_event ?hg (N := 3) ?hd (cs := #[.slice A1_0 l1_0.length c1_0, .slice A1_1 l1_1.length c1_1, .bool a1_2, .int .i64 a1_3, .bool a1_4, .int .i64 a1_5, .int .i64 a1_6, .int .i64 a1_7, .int .i64 a1_8, .int .i64 a1_9, .slice A1_10 l1_10.length c1_10, .slice A1_11 l1_11.length c1_11, .bool a1_12, .slice A1_13 l1_13.length c1_13, .bool a1_14, .int .i64 a1_15, .int .i64 a1_16, .int .i64 a1_17, .int .i64 a1_18, .int .i64 a1_19, .bool a1_20, .bool a1_21, .bool a1_22, .slice A1_23 l1_23.length c1_23, .slice A1_24 l1_24.length c1_24, .slice A1_25 l1_25.length c1_25, .slice A1_26 l1_26.length c1_26]) (t := 34) ?hr ?_; (case hd => rfl); (case hg => rfl); (case hr => first | (go_simp; done) | (go_simp; rfl)); intro gb131 hg w12 hbox hb; have n0_ := Aside0.mk (below_step (by repeat (first | (with_reducible first | exact HB.out | apply below_alloc | apply pw_below_drewN | apply below_drew1) | exact HB.out)) hb); have n1_ := Aside0.mk (hbox); have n2_ := Aside0.mk ((by rw [hg]; exact (below_size (by repeat (first | (with_reducible first | exact HB.out | apply below_alloc | apply pw_below_drewN | apply below_drew1) | exact HB.out))) : w.heap.size ≤ gb131)); have n3_ := Aside0.mk ((by rw [hg]; exact (below_size (by repeat (first | (with_reducible first | exact HB.out | apply below_alloc | apply pw_below_drewN | apply below_drew1) | exact HB.out))) : w.heap.size ≤ gb131)); clear HB; have HB := n0_; have BK131 := n1_; have GW131 := n2_; have GE131 := n3_; clear n0_ n1_ n2_ n3_; clear hb hbox hg))
        have n0_ := Aside0.mk (blk_drew BK131.out)
        have n1_ := Aside0.mk (below_drew1 HB.out)
        clear BK131
        clear HB
        have BK131 := n0_
        have HB := n1_
        clear n0_ n1_
        refine start_ (n := 14) (S := fun w' => w'.cell? ⟨gb131, 0, none⟩ = some (.slice A1_0 l1_0.length c1_0) ∧ w'.cell? ⟨gb131, 1, none⟩ = some (.slice A1_1 l1_1.length c1_1) ∧ w'.cell? ⟨gb131, 2, none⟩ = some (.bool a1_2) ∧ w'.cell? ⟨gb131, 3, none⟩ = some (.int .i64 a1_3) ∧ w'.cell? ⟨gb131, 4, none⟩ = some (.bool a1_4) ∧ w'.cell? ⟨gb131, 5, none⟩ = some (.int .i64 a1_5) ∧ w'.cell? ⟨gb131, 6, none⟩ = some (.int .i64 a1_6) ∧ w'.cell? ⟨gb131, 7, none⟩ = some (.int .i64 a1_7) ∧ w'.cell? ⟨gb131, 8, none⟩ = some (.int .i64 a1_8) ∧ w'.cell? ⟨gb131, 9, none⟩ = some (.int .i64 a1_9) ∧ w'.cell? ⟨gb131, 10, none⟩ = some (.slice A1_10 l1_10.length c1_10) ∧ w'.cell? ⟨gb131, 11, none⟩ = some (.slice A1_11 l1_11.length c1_11) ∧ w'.cell? ⟨gb131, 12, none⟩ = some (.bool a1_12) ∧ w'.cell? ⟨gb131, 13, none⟩ = some (.slice A1_13 l1_13.length c1_13) ∧ w'.cell? ⟨gb131, 14, none⟩ = some (.bool a1_14) ∧ w'.cell? ⟨gb131, 15, none⟩ = some (.int .i64 a1_15) ∧ w'.cell? ⟨gb131, 16, none⟩ = some (.int .i64 a1_16) ∧ w'.cell? ⟨gb131, 17, none⟩ = some (.int .i64 a1_17) ∧ w'.cell? ⟨gb131, 18, none⟩ = some (.int .i64 a1_18) ∧ w'.cell? ⟨gb131, 19, none⟩ = some (.int .i64 a1_19) ∧ w'.cell? ⟨gb131, 20, none⟩ = some (.bool a1_20) ∧ w'.cell? ⟨gb131, 21, none⟩ = some (.bool a1_21) ∧ w'.cell? ⟨gb131, 22, none⟩ = some (.bool a1_22) ∧ w'.cell? ⟨gb131, 23, none⟩ = some (.slice A1_23 l1_23.length c1_23) ∧ w'.cell? ⟨gb131, 24, none⟩ = some (.slice A1_24 l1_24.length c1_24) ∧ w'.cell? ⟨gb131, 25, none⟩ = some (.slice A1_25 l1_25.length c1_25) ∧ w'.cell? ⟨gb131, 26, none⟩ = some (.slice A1_26 l1_26.length c1_26)) (ds := []) #[false, false, false, false, false, false, false, false, false, false, false, false, false, false] (by kernel_rfl) rfl rfl ⟨(blk_cell BK131.out 0).trans rfl, (blk_cell BK131.out 1).trans rfl, (blk_cell BK131.out 2).trans rfl, (blk_cell BK131.out 3).trans rfl, (blk_cell BK131.out 4).trans rfl, (blk_cell BK131.out 5).trans rfl, (blk_cell BK131.out 6).trans rfl, (blk_cell BK131.out 7).trans rfl, (blk_cell BK131.out 8).trans rfl, (blk_cell BK131.out 9).trans rfl, (blk_cell BK131.out 10).trans rfl, (blk_cell BK131.out 11).trans rfl, (blk_cell BK131.out 12).trans rfl, (blk_cell BK131.out 13).trans rfl, (blk_cell BK131.out 14).trans rfl, (blk_cell BK131.out 15).trans rfl, (blk_cell BK131.out 16).trans rfl, (blk_cell BK131.out 17).trans rfl, (blk_cell BK131.out 18).trans rfl, (blk_cell BK131.out 19).trans rfl, (blk_cell BK131.out 20).trans rfl, (blk_cell BK131.out 21).trans rfl, (blk_cell BK131.out 22).trans rfl, (blk_cell BK131.out 23).trans rfl, (blk_cell BK131.out 24).trans rfl, (blk_cell BK131.out 25).trans rfl, (blk_cell BK131.out 26).trans rfl⟩ (fun hHeld => ?_); refine with_tabW view_Where.tab1 view_Where.bits1 (fun HT_ HW_ => ?_)
        generalize w12.drew = w13 at BK131 HB hHeld ⊢
        refine pure_ (i := 0) (N := some 6) (v := ?_) (a' := ?_) #[true, false, false, false, false, false, false, false, false, false, false, false, false, false] rfl rfl (any_of HT_.out (by kernel_rfl)) (fun _ _ _ h => h) (Or.inl ⟨by rfl, ?_⟩) ?_ ?_
        rotate_left
        · intro w'
          go_simp
          with_reducible rfl
        rotate_left
        · simp only [Act.put, List.setIfInBounds_toArray, List.set_cons_zero, List.set_cons_succ, i64_w, i32_w]
          rfl
        refine pure_ (i := 2) (N := some 8) (v := ?_) (a' := ?_) #[true, false, true, false, false, false, false, false, false, false, false, false, false, false] rfl rfl (any_of HT_.out (by kernel_rfl)) (fun _ _ _ h => h) (Or.inl ⟨by rfl, ?_⟩) ?_ ?_
        rotate_left
        · intro w'
          go_simp
          with_reducible rfl
        rotate_left
        · simp only [Act.put, List.setIfInBounds_toArray, List.set_cons_zero, List.set_cons_succ, i64_w, i32_w]
          rfl
        refine pure_ (i := 3) (N := some 9) (v := ?_) (a' := ?_) #[true, false, true, true, false, false, false, false, false, false, false, false, false, false] rfl rfl (any_of HT_.out (by kernel_rfl)) (fun _ _ _ h => h) (Or.inl ⟨by rfl, ?_⟩) ?_ ?_
        rotate_left
        · intro w'
          go_simp
          with_reducible rfl
        rotate_left
        · simp only [Act.put, List.setIfInBounds_toArray, List.set_cons_zero, List.set_cons_succ, i64_w, i32_w]
          rfl
        refine pure_ (i := 6) (N := some 12) (v := ?_) (a' := ?_) #[true, false, true, true, false, false, true, false, false, false, false, false, false, false] rfl rfl (any_of HT_.out (by kernel_rfl)) (fun _ _ _ h => h) (Or.inl ⟨by rfl, ?_⟩) ?_ ?_
        rotate_left
        · intro w'
          go_simp
          with_reducible rfl
        rotate_left
        · simp only [Act.put, List.setIfInBounds_toArray, List.set_cons_zero, List.set_cons_succ, i64_w, i32_w]
          rfl
        refine pure_ (i := 9) (N := some 15) (v := ?_) (a' := ?_) #[true, false, true, true, false, false, true, false, false, true, false, false, false, false] rfl rfl (any_of HT_.out (by kernel_rfl)) (fun _ _ _ h => h) (Or.inl ⟨by rfl, ?_⟩) ?_ ?_
        rotate_left
        · intro w'
          go_simp
          with_reducible rfl
        rotate_left
        · simp only [Act.put, List.setIfInBounds_toArray, List.set_cons_zero, List.set_cons_succ, i64_w, i32_w]
          rfl
        refine take_ (i := 4) (N := some 10) (v := ?_) (a' := ?_) #[true, false, true, true, true, false, true, false, false, true, false, false, false, false] rfl rfl (take_ofW HT_.out HW_.out (by kernel_rfl)) (fun _ _ _ h => h) (Or.inl ⟨by rfl, ?_⟩) hHeld ?_ ?_
        rotate_left
        · rintro w' ⟨s0, s1, s2, s3, s4, s5, s6, s7, s8, s9, s10, s11, s12, s13, s14, s15, s16, s17, s18, s19, s20, s21, s22, s23, s24, s25, s26⟩
          go_simp
          with_reducible rfl
        rotate_left
        · simp only [Act.put, List.setIfInBounds_toArray, List.set_cons_zero, List.set_cons_succ, i64_w, i32_w]
          rfl
        refine take_ (i := 7) (N := some 13) (v := ?_) (a' := ?_) #[true, false, true, true, true, false, true, true, false, true, false, false, false, false] rfl rfl (take_ofW HT_.out HW_.out (by kernel_rfl)) (fun _ _ _ h => h) (Or.inl ⟨by rfl, ?_⟩) hHeld ?_ ?_
        rotate_left
        · rintro w' ⟨s0, s1, s2, s3, s4, s5, s6, s7, s8, s9, s10, s11, s12, s13, s14, s15, s16, s17, s18, s19, s20, s21, s22, s23, s24, s25, s26⟩
          go_simp
          with_reducible rfl
        rotate_left
        · simp only [Act.put, List.setIfInBounds_toArray, List.set_cons_zero, List.set_cons_succ, i64_w, i32_w]
          rfl
        refine take_ (i := 10) (N := some 16) (v := ?_) (a' := ?_) #[true, false, true, true, true, false, true, true, false, true, true, false, false, false] rfl rfl (take_ofW HT_.out HW_.out (by kernel_rfl)) (fun _ _ _ h => h) (Or.inl ⟨by rfl, ?_⟩) hHeld ?_ ?_
        rotate_left
        · rintro w' ⟨s0, s1, s2, s3, s4, s5, s6, s7, s8, s9, s10, s11, s12, s13, s14, s15, s16, s17, s18, s19, s20, s21, s22, s23, s24, s25, s26⟩
          go_simp
          with_reducible rfl
        rotate_left
        · simp only [Act.put, List.setIfInBounds_toArray, List.set_cons_zero, List.set_cons_succ, i64_w, i32_w]
          rfl
        refine one_ (i := 1) (N := some 7) #[true, true, true, true, true, false, true, true, false, true, true, false, false, false] rfl rfl (one_of HT_.out (by kernel_rfl)) (by decide) (fun K hK => ?_)
        refine goes_ Tryd.func13 (by kernel_rfl) rfl #[.int .i64 a0] (by rfl) rfl rfl (by (try simp only [List.map_toArray, List.map_cons, List.map_nil]); first | done | rfl | (simp only [List.length_drop, List.length_take]; rfl)) ?_
        with_reducible refine (digit_Text.calls a0 t132 _ (TW0_.out.below (by repeat (first | (with_reducible first | exact HB.out | apply below_alloc | apply pw_below_drewN | apply below_drew1 | refine below_set ?_ GE131.out) | exact HB.out))) A3.out).mono ?_
        rintro e w14 ⟨rfl, hb⟩
        refine ⟨_, rfl, ?_⟩
        have n0_ := Aside0.mk (blk_below (g := gb131) (o := .cells #[.slice A1_0 l1_0.length c1_0, .slice A1_1 l1_1.length c1_1, .bool a1_2, .int .i64 a1_3, .bool a1_4, .int .i64 a1_5, .int .i64 a1_6, .int .i64 a1_7, .int .i64 a1_8, .int .i64 a1_9, .slice A1_10 l1_10.length c1_10, .slice A1_11 l1_11.length c1_11, .bool a1_12, .slice A1_13 l1_13.length c1_13, .bool a1_14, .int .i64 a1_15, .int .i64 a1_16, .int .i64 a1_17, .int .i64 a1_18, .int .i64 a1_19, .bool a1_20, .bool a1_21, .bool a1_22, .slice A1_23 l1_23.length c1_23, .slice A1_24 l1_24.length c1_24, .slice A1_25 l1_25.length c1_25, .slice A1_26 l1_26.length c1_26] 34 (0, 0)) (by (with_reducible repeat (first | refine blk_drewN ?_ _ | refine blk_drew ?_ | refine blk_alloc ?_ _)); exact BK131.out) hb)
        have n1_ := Aside0.mk (below_step (by repeat (first | (with_reducible first | exact HB.out | apply below_alloc | apply pw_below_drewN | apply below_drew1 | refine below_set ?_ GE131.out) | exact HB.out)) hb)
        clear BK131
        clear HB
        have BK131 := n0_
        have HB := n1_
        clear n0_ n1_
        (try clear hb)
        (try clear hb2)
        (try clear hk)
        (try clear hi)
        refine hK.out _ _ ⟨(blk_cell BK131.out 0).trans rfl, (blk_cell BK131.out 1).trans rfl, (blk_cell BK131.out 2).trans rfl, (blk_cell BK131.out 3).trans rfl, (blk_cell BK131.out 4).trans rfl, (blk_cell BK131.out 5).trans rfl, (blk_cell BK131.out 6).trans rfl, (blk_cell BK131.out 7).trans rfl, (blk_cell BK131.out 8).trans rfl, (blk_cell BK131.out 9).trans rfl, (blk_cell BK131.out 10).trans rfl, (blk_cell BK131.out 11).trans rfl, (blk_cell BK131.out 12).trans rfl, (blk_cell BK131.out 13).trans rfl, (blk_cell BK131.out 14).trans rfl, (blk_cell BK131.out 15).trans rfl, (blk_cell BK131.out 16).trans rfl, (blk_cell BK131.out 17).trans rfl, (blk_cell BK131.out 18).trans rfl, (blk_cell BK131.out 19).trans rfl, (blk_cell BK131.out 20).trans rfl, (blk_cell BK131.out 21).trans rfl, (blk_cell BK131.out 22).trans rfl, (blk_cell BK131.out 23).trans rfl, (blk_cell BK131.out 24).trans rfl, (blk_cell BK131.out 25).trans rfl, (blk_cell BK131.out 26).trans rfl⟩ (fun hHeld => ?_)
        clear hK K
        refine norm_ (a' := ?_) ?_ ?_
        rotate_left
        · show Act.put _ (some 7) _ = _
          simp only [Act.put, List.setIfInBounds_toArray, List.set_cons_zero, List.set_cons_succ, i64_w, i32_w]
          rfl
        refine one_ (i := 5) (N := some 11) #[true, true, true, true, true, true, true, true, false, true, true, false, false, false] rfl rfl (one_of HT_.out (by kernel_rfl)) (by decide) (fun K hK => ?_)
        refine goes_ Tryd.func13 (by kernel_rfl) rfl #[.int .i64 a1_3] (by rfl) rfl rfl (by (try simp only [List.map_toArray, List.map_cons, List.map_nil]); first | done | rfl | (simp only [List.length_drop, List.length_take]; rfl)) ?_
        with_reducible refine (digit_Text.calls a1_3 t133 _ (TW0_.out.below (by repeat (first | (with_reducible first | exact HB.out | apply below_alloc | apply pw_below_drewN | apply below_drew1 | refine below_set ?_ GE131.out) | exact HB.out))) A4.out).mono ?_
        rintro e w15 ⟨rfl, hb⟩
        refine ⟨_, rfl, ?_⟩
        have n0_ := Aside0.mk (blk_below (g := gb131) (o := .cells #[.slice A1_0 l1_0.length c1_0, .slice A1_1 l1_1.length c1_1, .bool a1_2, .int .i64 a1_3, .bool a1_4, .int .i64 a1_5, .int .i64 a1_6, .int .i64 a1_7, .int .i64 a1_8, .int .i64 a1_9, .slice A1_10 l1_10.length c1_10, .slice A1_11 l1_11.length c1_11, .bool a1_12, .slice A1_13 l1_13.length c1_13, .bool a1_14, .int .i64 a1_15, .int .i64 a1_16, .int .i64 a1_17, .int .i64 a1_18, .int .i64 a1_19, .bool a1_20, .bool a1_21, .bool a1_22, .slice A1_23 l1_23.length c1_23, .slice A1_24 l1_24.length c1_24, .slice A1_25 l1_25.length c1_25, .slice A1_26 l1_26.length c1_26] 34 (0, 0)) (by (with_reducible repeat (first | refine blk_drewN ?_ _ | refine blk_drew ?_ | refine blk_alloc ?_ _)); exact BK131.out) hb)
        have n1_ := Aside0.mk (below_step (by repeat (first | (with_reducible first | exact HB.out | apply below_alloc | apply pw_below_drewN | apply below_drew1 | refine below_set ?_ GE131.out) | exact HB.out)) hb)
        clear BK131
        clear HB
        have BK131 := n0_
        have HB := n1_
        clear n0_ n1_
        (try clear hb)
        (try clear hb2)
        (try clear hk)
        (try clear hi)
        refine hK.out _ _ ⟨(blk_cell BK131.out 0).trans rfl, (blk_cell BK131.out 1).trans rfl, (blk_cell BK131.out 2).trans rfl, (blk_cell BK131.out 3).trans rfl, (blk_cell BK131.out 4).trans rfl, (blk_cell BK131.out 5).trans rfl, (blk_cell BK131.out 6).trans rfl, (blk_cell BK131.out 7).trans rfl, (blk_cell BK131.out 8).trans rfl, (blk_cell BK131.out 9).trans rfl, (blk_cell BK131.out 10).trans rfl, (blk_cell BK131.out 11).trans rfl, (blk_cell BK131.out 12).trans rfl, (blk_cell BK131.out 13).trans rfl, (blk_cell BK131.out 14).trans rfl, (blk_cell BK131.out 15).trans rfl, (blk_cell BK131.out 16).trans rfl, (blk_cell BK131.out 17).trans rfl, (blk_cell BK131.out 18).trans rfl, (blk_cell BK131.out 19).trans rfl, (blk_cell BK131.out 20).trans rfl, (blk_cell BK131.out 21).trans rfl, (blk_cell BK131.out 22).trans rfl, (blk_cell BK131.out 23).trans rfl, (blk_cell BK131.out 24).trans rfl, (blk_cell BK131.out 25).trans rfl, (blk_cell BK131.out 26).trans rfl⟩ (fun hHeld => ?_)
        clear hK K
        refine norm_ (a' := ?_) ?_ ?_
        rotate_left
        · show Act.put _ (some 11) _ = _
          simp only [Act.put, List.setIfInBounds_toArray, List.set_cons_zero, List.set_cons_succ, i64_w, i32_w]
          rfl
        refine one_ (i := 8) (N := some 14) #[true, true, true, true, true, true, true, true, true, true, true, false, false, false] rfl rfl (one_of HT_.out (by kernel_rfl)) (by decide) (fun K hK => ?_)
        refine goes_ Tryd.func13 (by kernel_rfl) rfl #[.int .i64 a1_16] (by rfl) rfl rfl (by (try simp only [List.map_toArray, List.map_cons, List.map_nil]); first | done | rfl | (simp only [List.length_drop, List.length_take]; rfl)) ?_
        with_reducible refine (digit_Text.calls a1_16 t134 _ (TW0_.out.below (by repeat (first | (with_reducible first | exact HB.out | apply below_alloc | apply pw_below_drewN | apply below_drew1 | refine below_set ?_ GE131.out) | exact HB.out))) A5.out).mono ?_
        rintro e w16 ⟨rfl, hb⟩
        refine ⟨_, rfl, ?_⟩
        have n0_ := Aside0.mk (blk_below (g := gb131) (o := .cells #[.slice A1_0 l1_0.length c1_0, .slice A1_1 l1_1.length c1_1, .bool a1_2, .int .i64 a1_3, .bool a1_4, .int .i64 a1_5, .int .i64 a1_6, .int .i64 a1_7, .int .i64 a1_8, .int .i64 a1_9, .slice A1_10 l1_10.length c1_10, .slice A1_11 l1_11.length c1_11, .bool a1_12, .slice A1_13 l1_13.length c1_13, .bool a1_14, .int .i64 a1_15, .int .i64 a1_16, .int .i64 a1_17, .int .i64 a1_18, .int .i64 a1_19, .bool a1_20, .bool a1_21, .bool a1_22, .slice A1_23 l1_23.length c1_23, .slice A1_24 l1_24.length c1_24, .slice A1_25 l1_25.length c1_25, .slice A1_26 l1_26.length c1_26] 34 (0, 0)) (by (with_reducible repeat (first | refine blk_drewN ?_ _ | refine blk_drew ?_ | refine blk_alloc ?_ _)); exact BK131.out) hb)
        have n1_ := Aside0.mk (below_step (by repeat (first | (with_reducible first | exact HB.out | apply below_alloc | apply pw_below_drewN | apply below_drew1 | refine below_set ?_ GE131.out) | exact HB.out)) hb)
        clear BK131
        clear HB
        have BK131 := n0_
        have HB := n1_
        clear n0_ n1_
        (try clear hb)
        (try clear hb2)
        (try clear hk)
        (try clear hi)
        refine hK.out _ _ ⟨(blk_cell BK131.out 0).trans rfl, (blk_cell BK131.out 1).trans rfl, (blk_cell BK131.out 2).trans rfl, (blk_cell BK131.out 3).trans rfl, (blk_cell BK131.out 4).trans rfl, (blk_cell BK131.out 5).trans rfl, (blk_cell BK131.out 6).trans rfl, (blk_cell BK131.out 7).trans rfl, (blk_cell BK131.out 8).trans rfl, (blk_cell BK131.out 9).trans rfl, (blk_cell BK131.out 10).trans rfl, (blk_cell BK131.out 11).trans rfl, (blk_cell BK131.out 12).trans rfl, (blk_cell BK131.out 13).trans rfl, (blk_cell BK131.out 14).trans rfl, (blk_cell BK131.out 15).trans rfl, (blk_cell BK131.out 16).trans rfl, (blk_cell BK131.out 17).trans rfl, (blk_cell BK131.out 18).trans rfl, (blk_cell BK131.out 19).trans rfl, (blk_cell BK131.out 20).trans rfl, (blk_cell BK131.out 21).trans rfl, (blk_cell BK131.out 22).trans rfl, (blk_cell BK131.out 23).trans rfl, (blk_cell BK131.out 24).trans rfl, (blk_cell BK131.out 25).trans rfl, (blk_cell BK131.out 26).trans rfl⟩ (fun hHeld => ?_)
        clear hK K
        refine norm_ (a' := ?_) ?_ ?_
        rotate_left
        · show Act.put _ (some 14) _ = _
          simp only [Act.put, List.setIfInBounds_toArray, List.set_cons_zero, List.set_cons_succ, i64_w, i32_w]
          rfl
        refine one_ (i := 11) (N := some 17) #[true, true, true, true, true, true, true, true, true, true, true, true, false, false] rfl rfl (one_of HT_.out (by kernel_rfl)) (by decide) (fun K hK => ?_)
        refine goes_ Tryd.func14 (by kernel_rfl) rfl #[.int .i64 a1_15] (by rfl) rfl rfl (by (try simp only [List.map_toArray, List.map_cons, List.map_nil]); first | done | rfl | (simp only [List.length_drop, List.length_take]; rfl)) ?_
        with_reducible refine (view_phase.calls a1_15 t135 _ (TW0_.out.below (by repeat (first | (with_reducible first | exact HB.out | apply below_alloc | apply pw_below_drewN | apply below_drew1 | refine below_set ?_ GE131.out) | exact HB.out))) A6.out).mono ?_
        rintro e w17 ⟨rfl, hb⟩
        refine ⟨_, rfl, ?_⟩
        have n0_ := Aside0.mk (blk_below (g := gb131) (o := .cells #[.slice A1_0 l1_0.length c1_0, .slice A1_1 l1_1.length c1_1, .bool a1_2, .int .i64 a1_3, .bool a1_4, .int .i64 a1_5, .int .i64 a1_6, .int .i64 a1_7, .int .i64 a1_8, .int .i64 a1_9, .slice A1_10 l1_10.length c1_10, .slice A1_11 l1_11.length c1_11, .bool a1_12, .slice A1_13 l1_13.length c1_13, .bool a1_14, .int .i64 a1_15, .int .i64 a1_16, .int .i64 a1_17, .int .i64 a1_18, .int .i64 a1_19, .bool a1_20, .bool a1_21, .bool a1_22, .slice A1_23 l1_23.length c1_23, .slice A1_24 l1_24.length c1_24, .slice A1_25 l1_25.length c1_25, .slice A1_26 l1_26.length c1_26] 34 (0, 0)) (by (with_reducible repeat (first | refine blk_drewN ?_ _ | refine blk_drew ?_ | refine blk_alloc ?_ _)); exact BK131.out) hb)
        have n1_ := Aside0.mk (below_step (by repeat (first | (with_reducible first | exact HB.out | apply below_alloc | apply pw_below_drewN | apply below_drew1 | refine below_set ?_ GE131.out) | exact HB.out)) hb)
        clear BK131
        clear HB
        have BK131 := n0_
        have HB := n1_
        clear n0_ n1_
        (try clear hb)
        (try clear hb2)
        (try clear hk)
        (try clear hi)
        refine hK.out _ _ ⟨(blk_cell BK131.out 0).trans rfl, (blk_cell BK131.out 1).trans rfl, (blk_cell BK131.out 2).trans rfl, (blk_cell BK131.out 3).trans rfl, (blk_cell BK131.out 4).trans rfl, (blk_cell BK131.out 5).trans rfl, (blk_cell BK131.out 6).trans rfl, (blk_cell BK131.out 7).trans rfl, (blk_cell BK131.out 8).trans rfl, (blk_cell BK131.out 9).trans rfl, (blk_cell BK131.out 10).trans rfl, (blk_cell BK131.out 11).trans rfl, (blk_cell BK131.out 12).trans rfl, (blk_cell BK131.out 13).trans rfl, (blk_cell BK131.out 14).trans rfl, (blk_cell BK131.out 15).trans rfl, (blk_cell BK131.out 16).trans rfl, (blk_cell BK131.out 17).trans rfl, (blk_cell BK131.out 18).trans rfl, (blk_cell BK131.out 19).trans rfl, (blk_cell BK131.out 20).trans rfl, (blk_cell BK131.out 21).trans rfl, (blk_cell BK131.out 22).trans rfl, (blk_cell BK131.out 23).trans rfl, (blk_cell BK131.out 24).trans rfl, (blk_cell BK131.out 25).trans rfl, (blk_cell BK131.out 26).trans rfl⟩ (fun hHeld => ?_)
        clear hK K
        refine norm_ (a' := ?_) ?_ ?_
        rotate_left
        · show Act.put _ (some 17) _ = _
          simp only [Act.put, List.setIfInBounds_toArray, List.set_cons_zero, List.set_cons_succ, i64_w, i32_w]
          rfl
        refine one_ (i := 12) (N := some 18) #[true, true, true, true, true, true, true, true, true, true, true, true, true, false] rfl rfl (one_of HT_.out (by kernel_rfl)) (by decide) (fun K hK => ?_)
        refine Kd.R_lit_step Kd.string _ 9 ?hg (N := 18) ?hd (xs := ([(⟨#[115, 116, 101, 112]⟩ : ByteArray), t132, (⟨#[108, 105, 110, 101]⟩ : ByteArray), t133, (⟨#[112, 99]⟩ : ByteArray), t134, (⟨#[112, 104, 97, 115, 101]⟩ : ByteArray), t135] : List ByteArray)) (inner := [.string (⟨#[115, 116, 101, 112]⟩ : ByteArray), .string t132, .string (⟨#[108, 105, 110, 101]⟩ : ByteArray), .string t133, .string (⟨#[112, 99]⟩ : ByteArray), .string t134, .string (⟨#[112, 104, 97, 115, 101]⟩ : ByteArray), .string t135]) (ok := fun _ => True) (okp := fun _ => True) ?hr ?hp (fun _ hk => hk) trivial (Below.refl _ _) (Nat.le_refl _) (by simp) ?_; (case hd => rfl); (case hg => rfl); (case hr => first | (go_simp; done) | (go_simp; rfl)); (case hp => exact (Reps.one (show Kd.M Kd.string _ _ _ (⟨#[115, 116, 101, 112]⟩ : ByteArray) [.string (⟨#[115, 116, 101, 112]⟩ : ByteArray)] from rfl) (Reps.one (show Kd.M Kd.string _ _ _ t132 [.string t132] from rfl) (Reps.one (show Kd.M Kd.string _ _ _ (⟨#[108, 105, 110, 101]⟩ : ByteArray) [.string (⟨#[108, 105, 110, 101]⟩ : ByteArray)] from rfl) (Reps.one (show Kd.M Kd.string _ _ _ t133 [.string t133] from rfl) (Reps.one (show Kd.M Kd.string _ _ _ (⟨#[112, 99]⟩ : ByteArray) [.string (⟨#[112, 99]⟩ : ByteArray)] from rfl) (Reps.one (show Kd.M Kd.string _ _ _ t134 [.string t134] from rfl) (Reps.one (show Kd.M Kd.string _ _ _ (⟨#[112, 104, 97, 115, 101]⟩ : ByteArray) [.string (⟨#[112, 104, 97, 115, 101]⟩ : ByteArray)] from rfl) (Reps.one (show Kd.M Kd.string _ _ _ t135 [.string t135] from rfl) (Reps.none _ _))))))))))
        intro v137 w18 ho19 hb hg_ hnew_
        clear hg_ hnew_
        (first | rw [← Ny136.out] at ho19 | (simp only [Int.reduceToNat] at ho19; rw [← Ny136.out] at ho19))
        have n0_ := Aside0.mk (Kd.R_lower ho19 (below_size (by repeat (first | (with_reducible first | exact HB.out | apply below_alloc | apply pw_below_drewN | apply below_drew1 | refine below_set ?_ GE131.out) | exact HB.out))))
        have n1_ := Aside0.mk (blk_below (g := gb131) (o := .cells #[.slice A1_0 l1_0.length c1_0, .slice A1_1 l1_1.length c1_1, .bool a1_2, .int .i64 a1_3, .bool a1_4, .int .i64 a1_5, .int .i64 a1_6, .int .i64 a1_7, .int .i64 a1_8, .int .i64 a1_9, .slice A1_10 l1_10.length c1_10, .slice A1_11 l1_11.length c1_11, .bool a1_12, .slice A1_13 l1_13.length c1_13, .bool a1_14, .int .i64 a1_15, .int .i64 a1_16, .int .i64 a1_17, .int .i64 a1_18, .int .i64 a1_19, .bool a1_20, .bool a1_21, .bool a1_22, .slice A1_23 l1_23.length c1_23, .slice A1_24 l1_24.length c1_24, .slice A1_25 l1_25.length c1_25, .slice A1_26 l1_26.length c1_26] 34 (0, 0)) (by (with_reducible repeat (first | refine blk_drewN ?_ _ | refine blk_drew ?_ | refine blk_alloc ?_ _)); exact BK131.out) hb)
        have n2_ := Aside0.mk (below_step (by repeat (first | (with_reducible first | exact HB.out | apply below_alloc | apply pw_below_drewN | apply below_drew1 | refine below_set ?_ GE131.out) | exact HB.out)) hb)
        clear BK131
        clear HB
        have HO138 := n0_
        have BK131 := n1_
        have HB := n2_
        clear n0_ n1_ n2_
        clear hb ho19
        refine hK.out _ _ ⟨(blk_cell BK131.out 0).trans rfl, (blk_cell BK131.out 1).trans rfl, (blk_cell BK131.out 2).trans rfl, (blk_cell BK131.out 3).trans rfl, (blk_cell BK131.out 4).trans rfl, (blk_cell BK131.out 5).trans rfl, (blk_cell BK131.out 6).trans rfl, (blk_cell BK131.out 7).trans rfl, (blk_cell BK131.out 8).trans rfl, (blk_cell BK131.out 9).trans rfl, (blk_cell BK131.out 10).trans rfl, (blk_cell BK131.out 11).trans rfl, (blk_cell BK131.out 12).trans rfl, (blk_cell BK131.out 13).trans rfl, (blk_cell BK131.out 14).trans rfl, (blk_cell BK131.out 15).trans rfl, (blk_cell BK131.out 16).trans rfl, (blk_cell BK131.out 17).trans rfl, (blk_cell BK131.out 18).trans rfl, (blk_cell BK131.out 19).trans rfl, (blk_cell BK131.out 20).trans rfl, (blk_cell BK131.out 21).trans rfl, (blk_cell BK131.out 22).trans rfl, (blk_cell BK131.out 23).trans rfl, (blk_cell BK131.out 24).trans rfl, (blk_cell BK131.out 25).trans rfl, (blk_cell BK131.out 26).trans rfl⟩ (fun hHeld => ?_)
        clear hK K
        refine norm_ (a' := ?_) ?_ ?_
        rotate_left
        · show Act.put _ (some 18) _ = _
          simp only [Act.put, List.setIfInBounds_toArray, List.set_cons_zero, List.set_cons_succ, i64_w, i32_w]
          rfl
        refine pure_ (i := 13) (N := some 5) (v := ?_) (a' := ?_) #[true, true, true, true, true, true, true, true, true, true, true, true, true, true] rfl rfl (any_of HT_.out (by kernel_rfl)) (fun _ _ _ h => h) (Or.inl ⟨by rfl, ?_⟩) ?_ ?_
        rotate_left
        · intro w'
          go_simp
          with_reducible rfl
        rotate_left
        · simp only [Act.put, List.setIfInBounds_toArray, List.set_cons_zero, List.set_cons_succ, i64_w, i32_w]
          rfl
        refine done_ (done_of HT_.out (by kernel_rfl)) ?_
        have hcz20_0 : w18.cell? ⟨gb131, 0, none⟩ = some (.slice A1_0 l1_0.length c1_0) := (blk_cell BK131.out 0).trans rfl
        have hcz20_1 : w18.cell? ⟨gb131, 1, none⟩ = some (.slice A1_1 l1_1.length c1_1) := (blk_cell BK131.out 1).trans rfl
        have hcz20_2 : w18.cell? ⟨gb131, 2, none⟩ = some (.bool a1_2) := (blk_cell BK131.out 2).trans rfl
        have hcz20_3 : w18.cell? ⟨gb131, 3, none⟩ = some (.int .i64 a1_3) := (blk_cell BK131.out 3).trans rfl
        have hcz20_4 : w18.cell? ⟨gb131, 4, none⟩ = some (.bool a1_4) := (blk_cell BK131.out 4).trans rfl
        have hcz20_5 : w18.cell? ⟨gb131, 5, none⟩ = some (.int .i64 a1_5) := (blk_cell BK131.out 5).trans rfl
        have hcz20_6 : w18.cell? ⟨gb131, 6, none⟩ = some (.int .i64 a1_6) := (blk_cell BK131.out 6).trans rfl
        have hcz20_7 : w18.cell? ⟨gb131, 7, none⟩ = some (.int .i64 a1_7) := (blk_cell BK131.out 7).trans rfl
        have hcz20_8 : w18.cell? ⟨gb131, 8, none⟩ = some (.int .i64 a1_8) := (blk_cell BK131.out 8).trans rfl
        have hcz20_9 : w18.cell? ⟨gb131, 9, none⟩ = some (.int .i64 a1_9) := (blk_cell BK131.out 9).trans rfl
        have hcz20_10 : w18.cell? ⟨gb131, 10, none⟩ = some (.slice A1_10 l1_10.length c1_10) := (blk_cell BK131.out 10).trans rfl
        have hcz20_11 : w18.cell? ⟨gb131, 11, none⟩ = some (.slice A1_11 l1_11.length c1_11) := (blk_cell BK131.out 11).trans rfl
        have hcz20_12 : w18.cell? ⟨gb131, 12, none⟩ = some (.bool a1_12) := (blk_cell BK131.out 12).trans rfl
        have hcz20_13 : w18.cell? ⟨gb131, 13, none⟩ = some (.slice A1_13 l1_13.length c1_13) := (blk_cell BK131.out 13).trans rfl
        have hcz20_14 : w18.cell? ⟨gb131, 14, none⟩ = some (.bool a1_14) := (blk_cell BK131.out 14).trans rfl
        have hcz20_15 : w18.cell? ⟨gb131, 15, none⟩ = some (.int .i64 a1_15) := (blk_cell BK131.out 15).trans rfl
        have hcz20_16 : w18.cell? ⟨gb131, 16, none⟩ = some (.int .i64 a1_16) := (blk_cell BK131.out 16).trans rfl
        have hcz20_17 : w18.cell? ⟨gb131, 17, none⟩ = some (.int .i64 a1_17) := (blk_cell BK131.out 17).trans rfl
        have hcz20_18 : w18.cell? ⟨gb131, 18, none⟩ = some (.int .i64 a1_18) := (blk_cell BK131.out 18).trans rfl
        have hcz20_19 : w18.cell? ⟨gb131, 19, none⟩ = some (.int .i64 a1_19) := (blk_cell BK131.out 19).trans rfl
        have hcz20_20 : w18.cell? ⟨gb131, 20, none⟩ = some (.bool a1_20) := (blk_cell BK131.out 20).trans rfl
        have hcz20_21 : w18.cell? ⟨gb131, 21, none⟩ = some (.bool a1_21) := (blk_cell BK131.out 21).trans rfl
        have hcz20_22 : w18.cell? ⟨gb131, 22, none⟩ = some (.bool a1_22) := (blk_cell BK131.out 22).trans rfl
        have hcz20_23 : w18.cell? ⟨gb131, 23, none⟩ = some (.slice A1_23 l1_23.length c1_23) := (blk_cell BK131.out 23).trans rfl
        have hcz20_24 : w18.cell? ⟨gb131, 24, none⟩ = some (.slice A1_24 l1_24.length c1_24) := (blk_cell BK131.out 24).trans rfl
        have hcz20_25 : w18.cell? ⟨gb131, 25, none⟩ = some (.slice A1_25 l1_25.length c1_25) := (blk_cell BK131.out 25).trans rfl
        have hcz20_26 : w18.cell? ⟨gb131, 26, none⟩ = some (.slice A1_26 l1_26.length c1_26) := (blk_cell BK131.out 26).trans rfl
        have hfz20_0 := blk_frozen BK131.out 0
        have hfz20_1 := blk_frozen BK131.out 1
        have hfz20_2 := blk_frozen BK131.out 2
        have hfz20_3 := blk_frozen BK131.out 3
        have hfz20_4 := blk_frozen BK131.out 4
        have hfz20_5 := blk_frozen BK131.out 5
        have hfz20_6 := blk_frozen BK131.out 6
        have hfz20_7 := blk_frozen BK131.out 7
        have hfz20_8 := blk_frozen BK131.out 8
        have hfz20_9 := blk_frozen BK131.out 9
        have hfz20_10 := blk_frozen BK131.out 10
        have hfz20_11 := blk_frozen BK131.out 11
        have hfz20_12 := blk_frozen BK131.out 12
        have hfz20_13 := blk_frozen BK131.out 13
        have hfz20_14 := blk_frozen BK131.out 14
        have hfz20_15 := blk_frozen BK131.out 15
        have hfz20_16 := blk_frozen BK131.out 16
        have hfz20_17 := blk_frozen BK131.out 17
        have hfz20_18 := blk_frozen BK131.out 18
        have hfz20_19 := blk_frozen BK131.out 19
        have hfz20_20 := blk_frozen BK131.out 20
        have hfz20_21 := blk_frozen BK131.out 21
        have hfz20_22 := blk_frozen BK131.out 22
        have hfz20_23 := blk_frozen BK131.out 23
        have hfz20_24 := blk_frozen BK131.out 24
        have hfz20_25 := blk_frozen BK131.out 25
        have hfz20_26 := blk_frozen BK131.out 26
        try go_wp2_with (first | ((with_reducible refine gate_callee (f := 13) rfl ?_); refine goesL_ (some 25) rfl rfl Tryd.func13 (by kernel_rfl) rfl #[.int .i64 a1_17] rfl (by (try simp only [List.map_toArray, List.map_cons, List.map_nil]); first | done | rfl | (simp only [List.length_drop, List.length_take]; rfl)) ?_; (with_reducible refine (digit_Text.calls a1_17 t139 _ (TW0_.out.below (by repeat (first | (with_reducible first | exact HB.out | apply below_alloc | apply pw_below_drewN | apply below_drew1 | refine below_set ?_ GE131.out) | exact HB.out))) A8.out).mono ?_); rintro e w21 ⟨rfl, hb⟩; refine ⟨_, rfl, ?_⟩; have n0_ := Aside0.mk (Kd.R_below (by (with_reducible repeat (first | apply Kd.R_alloc | apply Kd.R_drewN | apply Kd.R_drew)); exact HO138.out) hb); have n1_ := Aside0.mk (blk_below (g := gb131) (o := .cells #[.slice A1_0 l1_0.length c1_0, .slice A1_1 l1_1.length c1_1, .bool a1_2, .int .i64 a1_3, .bool a1_4, .int .i64 a1_5, .int .i64 a1_6, .int .i64 a1_7, .int .i64 a1_8, .int .i64 a1_9, .slice A1_10 l1_10.length c1_10, .slice A1_11 l1_11.length c1_11, .bool a1_12, .slice A1_13 l1_13.length c1_13, .bool a1_14, .int .i64 a1_15, .int .i64 a1_16, .int .i64 a1_17, .int .i64 a1_18, .int .i64 a1_19, .bool a1_20, .bool a1_21, .bool a1_22, .slice A1_23 l1_23.length c1_23, .slice A1_24 l1_24.length c1_24, .slice A1_25 l1_25.length c1_25, .slice A1_26 l1_26.length c1_26] 34 (0, 0)) (by (with_reducible repeat (first | refine blk_drewN ?_ _ | refine blk_drew ?_ | refine blk_alloc ?_ _)); exact BK131.out) hb); have n2_ := Aside0.mk (below_step (by repeat (first | (with_reducible first | exact HB.out | apply below_alloc | apply pw_below_drewN | apply below_drew1 | refine below_set ?_ GE131.out) | exact HB.out)) hb); clear HO138; clear BK131; clear HB; have HO138 := n0_; have BK131 := n1_; have HB := n2_; clear n0_ n1_ n2_; (try clear hb); (try clear hb2); (try clear hk); (try clear hi)) | ((with_reducible refine gate_dst (N := 26) rfl ?_); refine Kd.R_lit Kd.string _ 9 ?hg (N := 26) ?hd (xs := ([(⟨#[101, 120, 105, 116]⟩ : ByteArray), t139] : List ByteArray)) (inner := [.string (⟨#[101, 120, 105, 116]⟩ : ByteArray), .string t139]) (ok := fun _ => True) (okp := fun _ => True) ?hr ?hp (fun _ hk => hk) trivial (Below.refl _ _) (Nat.le_refl _) (by simp) ?_; (case hd => rfl); (case hg => rfl); (case hr => first | (go_simp; done) | (go_simp; rfl)); (case hp => exact (Reps.one (show Kd.M Kd.string _ _ _ (⟨#[101, 120, 105, 116]⟩ : ByteArray) [.string (⟨#[101, 120, 105, 116]⟩ : ByteArray)] from rfl) (Reps.one (show Kd.M Kd.string _ _ _ t139 [.string t139] from rfl) (Reps.none _ _)))); intro v141 w22 ho23 hb hg_ hnew_; clear hg_ hnew_; (first | rw [← Ny140.out] at ho23 | (simp only [Int.reduceToNat] at ho23; rw [← Ny140.out] at ho23)); have n0_ := Aside0.mk (Kd.R_elder' (by (with_reducible repeat (first | apply Kd.R_alloc | apply Kd.R_drewN | apply Kd.R_drew)); exact HO138.out) (Kd.R_base ho23) hb); have n1_ := Aside0.mk (Kd.R_lower (Kd.R_new' ho23 (Kd.R_lt (by (with_reducible repeat (first | apply Kd.R_alloc | apply Kd.R_drewN | apply Kd.R_drew)); exact HO138.out))) (below_size (by repeat (first | (with_reducible first | exact HB.out | apply below_alloc | apply pw_below_drewN | apply below_drew1 | refine below_set ?_ GE131.out) | exact HB.out)))); have n2_ := Aside0.mk (blk_below (g := gb131) (o := .cells #[.slice A1_0 l1_0.length c1_0, .slice A1_1 l1_1.length c1_1, .bool a1_2, .int .i64 a1_3, .bool a1_4, .int .i64 a1_5, .int .i64 a1_6, .int .i64 a1_7, .int .i64 a1_8, .int .i64 a1_9, .slice A1_10 l1_10.length c1_10, .slice A1_11 l1_11.length c1_11, .bool a1_12, .slice A1_13 l1_13.length c1_13, .bool a1_14, .int .i64 a1_15, .int .i64 a1_16, .int .i64 a1_17, .int .i64 a1_18, .int .i64 a1_19, .bool a1_20, .bool a1_21, .bool a1_22, .slice A1_23 l1_23.length c1_23, .slice A1_24 l1_24.length c1_24, .slice A1_25 l1_25.length c1_25, .slice A1_26 l1_26.length c1_26] 34 (0, 0)) (by (with_reducible repeat (first | refine blk_drewN ?_ _ | refine blk_drew ?_ | refine blk_alloc ?_ _)); exact BK131.out) hb); have n3_ := Aside0.mk (below_step (by repeat (first | (with_reducible first | exact HB.out | apply below_alloc | apply pw_below_drewN | apply below_drew1 | refine below_set ?_ GE131.out) | exact HB.out)) hb); clear HO138; clear BK131; clear HB; have HO138 := n0_; have HO142 := n1_; have BK131 := n2_; have HB := n3_; clear n0_ n1_ n2_ n3_; clear hb ho23; obtain ⟨Ao25, co25, eo25⟩ := Kd.R_slice HO142.out; subst eo25) | ((with_reducible refine gate_builtin (b := .append) (xs := #[.tmp 22, .tmp 26]) rfl ?_); at_builtin; refine Kd.R_append_rows Kd.string (w0 := w) w.heap.size rfl (.tmp 22) (.tmp 26) 38 9 (.string ⟨#[]⟩) 16 rfl Tryd.underlying38 info9 rfl (by decide) (by omega) v137 y136 y140 _ _ _ (fun k_ => some k_ ≠ (.slice Ao25 y140.length co25 : Value).ownBlock) (fun _ => False) rfl rfl ?aO ?aR (fun _ _ h => h) (fun _ h => h.elim) ?aF ?aB ?aS ?aL ?_; (case aR => repeat (first | exact (Kd.R_reads' HO142.out).2.2 | (with_reducible refine Kd.C_alloc ?_ _) | (with_reducible refine Kd.C_drewN ?_ _) | (with_reducible refine Kd.C_drew ?_))); (case aB => exact (by repeat (first | (with_reducible first | exact HB.out | apply below_alloc | apply pw_below_drewN | apply below_drew1 | refine below_set ?_ GE131.out) | exact HB.out))); (case aF => exact (fun k_ hk => Kd.fresh' (Kd.R_lt (by (with_reducible repeat (first | apply Kd.R_alloc | apply Kd.R_drewN | apply Kd.R_drew)); exact HO142.out)) k_ hk)); (case aO => exact (by (with_reducible repeat (first | apply Kd.R_alloc | apply Kd.R_drewN | apply Kd.R_drew)); exact Kd.R_mono HO138.out (fun _ hk => hk.2))); (case aS => exact (below_size (by repeat (first | (with_reducible first | exact HB.out | apply below_alloc | apply pw_below_drewN | apply below_drew1 | refine below_set ?_ GE131.out) | exact HB.out)))); (case aL => have := LMc9.out; omega); intro v144 w24 ho hb hg hat; rw [← Ny143.out] at ho; have n0_ := Aside0.mk (blk_grown (g := gb131) (o := .cells #[.slice A1_0 l1_0.length c1_0, .slice A1_1 l1_1.length c1_1, .bool a1_2, .int .i64 a1_3, .bool a1_4, .int .i64 a1_5, .int .i64 a1_6, .int .i64 a1_7, .int .i64 a1_8, .int .i64 a1_9, .slice A1_10 l1_10.length c1_10, .slice A1_11 l1_11.length c1_11, .bool a1_12, .slice A1_13 l1_13.length c1_13, .bool a1_14, .int .i64 a1_15, .int .i64 a1_16, .int .i64 a1_17, .int .i64 a1_18, .int .i64 a1_19, .bool a1_20, .bool a1_21, .bool a1_22, .slice A1_23 l1_23.length c1_23, .slice A1_24 l1_24.length c1_24, .slice A1_25 l1_25.length c1_25, .slice A1_26 l1_26.length c1_26] 34 (0, 0)) (by (with_reducible repeat (first | refine blk_drewN ?_ _ | refine blk_drew ?_ | refine blk_alloc ?_ _)); exact BK131.out) hg (Kd.R_ne HO138.out BK131.out (by decide))); have n1_ := Aside0.mk (Kd.R_after (ok := (fun _ => True)) (by (with_reducible repeat (first | apply Kd.R_alloc | apply Kd.R_drewN | apply Kd.R_drew)); exact HO142.out) hg hat); have n2_ := Aside0.mk (hb); have n3_ := Aside0.mk (ho); clear BK131; clear HO142; clear HB; clear HO138; have BK131 := n0_; have HO142 := n1_; have HB := n2_; have HO145 := n3_; clear n0_ n1_ n2_ n3_; clear ho hb hg hat; have hcz26_0 : w24.cell? ⟨gb131, 0, none⟩ = some (.slice A1_0 l1_0.length c1_0) := (blk_cell BK131.out 0).trans rfl; have hcz26_1 : w24.cell? ⟨gb131, 1, none⟩ = some (.slice A1_1 l1_1.length c1_1) := (blk_cell BK131.out 1).trans rfl; have hcz26_2 : w24.cell? ⟨gb131, 2, none⟩ = some (.bool a1_2) := (blk_cell BK131.out 2).trans rfl; have hcz26_3 : w24.cell? ⟨gb131, 3, none⟩ = some (.int .i64 a1_3) := (blk_cell BK131.out 3).trans rfl; have hcz26_4 : w24.cell? ⟨gb131, 4, none⟩ = some (.bool a1_4) := (blk_cell BK131.out 4).trans rfl; have hcz26_5 : w24.cell? ⟨gb131, 5, none⟩ = some (.int .i64 a1_5) := (blk_cell BK131.out 5).trans rfl; have hcz26_6 : w24.cell? ⟨gb131, 6, none⟩ = some (.int .i64 a1_6) := (blk_cell BK131.out 6).trans rfl; have hcz26_7 : w24.cell? ⟨gb131, 7, none⟩ = some (.int .i64 a1_7) := (blk_cell BK131.out 7).trans rfl; have hcz26_8 : w24.cell? ⟨gb131, 8, none⟩ = some (.int .i64 a1_8) := (blk_cell BK131.out 8).trans rfl; have hcz26_9 : w24.cell? ⟨gb131, 9, none⟩ = some (.int .i64 a1_9) := (blk_cell BK131.out 9).trans rfl; have hcz26_10 : w24.cell? ⟨gb131, 10, none⟩ = some (.slice A1_10 l1_10.length c1_10) := (blk_cell BK131.out 10).trans rfl; have hcz26_11 : w24.cell? ⟨gb131, 11, none⟩ = some (.slice A1_11 l1_11.length c1_11) := (blk_cell BK131.out 11).trans rfl; have hcz26_12 : w24.cell? ⟨gb131, 12, none⟩ = some (.bool a1_12) := (blk_cell BK131.out 12).trans rfl; have hcz26_13 : w24.cell? ⟨gb131, 13, none⟩ = some (.slice A1_13 l1_13.length c1_13) := (blk_cell BK131.out 13).trans rfl; have hcz26_14 : w24.cell? ⟨gb131, 14, none⟩ = some (.bool a1_14) := (blk_cell BK131.out 14).trans rfl; have hcz26_15 : w24.cell? ⟨gb131, 15, none⟩ = some (.int .i64 a1_15) := (blk_cell BK131.out 15).trans rfl; have hcz26_16 : w24.cell? ⟨gb131, 16, none⟩ = some (.int .i64 a1_16) := (blk_cell BK131.out 16).trans rfl; have hcz26_17 : w24.cell? ⟨gb131, 17, none⟩ = some (.int .i64 a1_17) := (blk_cell BK131.out 17).trans rfl; have hcz26_18 : w24.cell? ⟨gb131, 18, none⟩ = some (.int .i64 a1_18) := (blk_cell BK131.out 18).trans rfl; have hcz26_19 : w24.cell? ⟨gb131, 19, none⟩ = some (.int .i64 a1_19) := (blk_cell BK131.out 19).trans rfl; have hcz26_20 : w24.cell? ⟨gb131, 20, none⟩ = some (.bool a1_20) := (blk_cell BK131.out 20).trans rfl; have hcz26_21 : w24.cell? ⟨gb131, 21, none⟩ = some (.bool a1_21) := (blk_cell BK131.out 21).trans rfl; have hcz26_22 : w24.cell? ⟨gb131, 22, none⟩ = some (.bool a1_22) := (blk_cell BK131.out 22).trans rfl; have hcz26_23 : w24.cell? ⟨gb131, 23, none⟩ = some (.slice A1_23 l1_23.length c1_23) := (blk_cell BK131.out 23).trans rfl; have hcz26_24 : w24.cell? ⟨gb131, 24, none⟩ = some (.slice A1_24 l1_24.length c1_24) := (blk_cell BK131.out 24).trans rfl; have hcz26_25 : w24.cell? ⟨gb131, 25, none⟩ = some (.slice A1_25 l1_25.length c1_25) := (blk_cell BK131.out 25).trans rfl; have hcz26_26 : w24.cell? ⟨gb131, 26, none⟩ = some (.slice A1_26 l1_26.length c1_26) := (blk_cell BK131.out 26).trans rfl; have hfz26_0 := blk_frozen BK131.out 0; have hfz26_1 := blk_frozen BK131.out 1; have hfz26_2 := blk_frozen BK131.out 2; have hfz26_3 := blk_frozen BK131.out 3; have hfz26_4 := blk_frozen BK131.out 4; have hfz26_5 := blk_frozen BK131.out 5; have hfz26_6 := blk_frozen BK131.out 6; have hfz26_7 := blk_frozen BK131.out 7; have hfz26_8 := blk_frozen BK131.out 8; have hfz26_9 := blk_frozen BK131.out 9; have hfz26_10 := blk_frozen BK131.out 10; have hfz26_11 := blk_frozen BK131.out 11; have hfz26_12 := blk_frozen BK131.out 12; have hfz26_13 := blk_frozen BK131.out 13; have hfz26_14 := blk_frozen BK131.out 14; have hfz26_15 := blk_frozen BK131.out 15; have hfz26_16 := blk_frozen BK131.out 16; have hfz26_17 := blk_frozen BK131.out 17; have hfz26_18 := blk_frozen BK131.out 18; have hfz26_19 := blk_frozen BK131.out 19; have hfz26_20 := blk_frozen BK131.out 20; have hfz26_21 := blk_frozen BK131.out 21; have hfz26_22 := blk_frozen BK131.out 22; have hfz26_23 := blk_frozen BK131.out 23; have hfz26_24 := blk_frozen BK131.out 24; have hfz26_25 := blk_frozen BK131.out 25; have hfz26_26 := blk_frozen BK131.out 26; obtain ⟨Ao27, co27, eo27⟩ := Kd.R_slice HO145.out; subst eo27) | ((with_reducible refine gate_callee (f := 15) rfl ?_); refine goesL_ (some 41) rfl rfl Tryd.func15 (by kernel_rfl) rfl #[.slice Ao27 y143.length co27] rfl (by (try simp only [List.map_toArray, List.map_cons, List.map_nil]); first | done | rfl | (simp only [List.length_drop, List.length_take]; rfl)) ?_; (with_reducible refine (show_Row.calls _ _ y143 t146 _ ?side1 ?side2 A11.out).mono ?_); (case side1 => repeat (first | exact (Kd.R_reads' HO145.out).2.2 | (with_reducible refine Kd.C_alloc ?_ _) | (with_reducible refine Kd.C_drewN ?_ _) | (with_reducible refine Kd.C_drew ?_))); (case side2 => exact (Kd.R_reads' HO145.out).2.1); rintro e w28 ⟨rfl, hb⟩; refine ⟨_, rfl, ?_⟩; have n0_ := Aside0.mk (Kd.R_below (by (with_reducible repeat (first | apply Kd.R_alloc | apply Kd.R_drewN | apply Kd.R_drew)); exact HO142.out) hb); have n1_ := Aside0.mk (Kd.R_below (by (with_reducible repeat (first | apply Kd.R_alloc | apply Kd.R_drewN | apply Kd.R_drew)); exact HO145.out) hb); have n2_ := Aside0.mk (blk_below (g := gb131) (o := .cells #[.slice A1_0 l1_0.length c1_0, .slice A1_1 l1_1.length c1_1, .bool a1_2, .int .i64 a1_3, .bool a1_4, .int .i64 a1_5, .int .i64 a1_6, .int .i64 a1_7, .int .i64 a1_8, .int .i64 a1_9, .slice A1_10 l1_10.length c1_10, .slice A1_11 l1_11.length c1_11, .bool a1_12, .slice A1_13 l1_13.length c1_13, .bool a1_14, .int .i64 a1_15, .int .i64 a1_16, .int .i64 a1_17, .int .i64 a1_18, .int .i64 a1_19, .bool a1_20, .bool a1_21, .bool a1_22, .slice A1_23 l1_23.length c1_23, .slice A1_24 l1_24.length c1_24, .slice A1_25 l1_25.length c1_25, .slice A1_26 l1_26.length c1_26] 34 (0, 0)) (by (with_reducible repeat (first | refine blk_drewN ?_ _ | refine blk_drew ?_ | refine blk_alloc ?_ _)); exact BK131.out) hb); have n3_ := Aside0.mk (below_step (by repeat (first | (with_reducible first | exact HB.out | apply below_alloc | apply pw_below_drewN | apply below_drew1 | refine below_set ?_ GE131.out) | exact HB.out)) hb); clear HO142; clear HO145; clear BK131; clear HB; have HO142 := n0_; have HO145 := n1_; have BK131 := n2_; have HB := n3_; clear n0_ n1_ n2_ n3_; (try clear hb); (try clear hb2); (try clear hk); (try clear hi)))
        go_ret
        exact ⟨by first | rfl | (simp [errW_none, errW_some] <;> rfl) | (simp [*, errW_none, errW_some] <;> rfl), by repeat (first | (with_reducible first | exact HB.out | apply below_alloc | apply pw_below_drewN | apply below_drew1 | refine below_set ?_ GE131.out) | exact HB.out)⟩
      · rw [if_neg c10] at H
        have c10b0 : (a1_19 == 0) = false := beq_eq_false_iff_ne.mpr c10
        have c10b1 : (a1_19 != 0) = true := bne_iff_ne.mpr c10
        replace H := Option.bind_eq_some_iff.mp H
        obtain ⟨t147, A290, H⟩ := H
        replace H : ((digit_Text.f a1_18).bind fun t148 => ((some (([(⟨#[101, 114, 114, 111, 114]⟩ : ByteArray), t147, (⟨#[97, 116]⟩ : ByteArray), t148] : List ByteArray) : List ByteArray)).bind fun y149 => (if y143.length + y149.length < 8796093022208 then ((show_Row.f (y143 ++ y149)).bind fun t155 => (some t155)) else (none)))) = some r := H
        have A29 := Aside0.mk A290
        clear A290
        replace H := Option.bind_eq_some_iff.mp H
        obtain ⟨t148, A300, H⟩ := H
        replace H : ((some (([(⟨#[101, 114, 114, 111, 114]⟩ : ByteArray), t147, (⟨#[97, 116]⟩ : ByteArray), t148] : List ByteArray) : List ByteArray)).bind fun y149 => (if y143.length + y149.length < 8796093022208 then ((show_Row.f (y143 ++ y149)).bind fun t155 => (some t155)) else (none))) = some r := H
        have A30 := Aside0.mk A300
        clear A300
        obtain ⟨y149, hy149⟩ : ∃ y_ : List ByteArray, y_ = (([(⟨#[101, 114, 114, 111, 114]⟩ : ByteArray), t147, (⟨#[97, 116]⟩ : ByteArray), t148] : List ByteArray)) := ⟨_, rfl⟩
        replace H : (if y143.length + y149.length < 8796093022208 then ((show_Row.f (y143 ++ y149)).bind fun t155 => (some t155)) else (none)) = some r := by first | (rw [hy149]; with_reducible exact H) | (have H2_ := (Option.bind_some _ _).symm.trans H; rw [hy149]; with_reducible exact H2_) | (have H2_ := (Option.bind_some _ _).symm.trans H; with_reducible exact H2_) | with_reducible exact H | (rw [hy149]; exact H) | exact H
        have Ny149 := Aside0.mk hy149
        clear hy149
        by_cases c31 : y143.length + y149.length < 8796093022208
        · rw [if_pos c31] at H
          have LMc31 := Aside0.mk c31
          clear c31
          obtain ⟨y152, hy152⟩ : ∃ y_ : List ByteArray, y_ = (y143 ++ y149) := ⟨_, rfl⟩
          replace H : ((show_Row.f y152).bind fun t155 => (some t155)) = some r := by first | (rw [hy152]; with_reducible exact H) | (have H2_ := (Option.bind_some _ _).symm.trans H; rw [hy152]; with_reducible exact H2_) | (have H2_ := (Option.bind_some _ _).symm.trans H; with_reducible exact H2_) | with_reducible exact H | (rw [hy152]; exact H) | exact H
          have Ny152 := Aside0.mk hy152
          clear hy152
          replace H := Option.bind_eq_some_iff.mp H
          obtain ⟨t155, A320, H⟩ := H
          replace H : (some t155) = some r := H
          have A32 := Aside0.mk A320
          clear A320
          obtain rfl := Option.some.inj H
          go_enter Tryd.func6, Tryd.ntmps6
          try go_wp2_with (first | ((with_reducible refine gate_dst (N := 3) rfl ?_); refine box_event ?hg (N := 3) ?hd (cs := #[.slice A1_0 l1_0.length c1_0, .slice A1_1 l1_1.length c1_1, .bool a1_2, .int .i64 a1_3, .bool a1_4, .int .i64 a1_5, .int .i64 a1_6, .int .i64 a1_7, .int .i64 a1_8, .int .i64 a1_9, .slice A1_10 l1_10.length c1_10, .slice A1_11 l1_11.length c1_11, .bool a1_12, .slice A1_13 l1_13.length c1_13, .bool a1_14, .int .i64 a1_15, .int .i64 a1_16, .int .i64 a1_17, .int .i64 a1_18, .int .i64 a1_19, .bool a1_20, .bool a1_21, .bool a1_22, .slice A1_23 l1_23.length c1_23, .slice A1_24 l1_24.length c1_24, .slice A1_25 l1_25.length c1_25, .slice A1_26 l1_26.length c1_26]) (t := 34) ?hr ?_; (case hd => rfl); (case hg => rfl); (case hr => first | (go_simp; done) | (go_simp; rfl)); intro gb131 hg w33 hbox hb; have n0_ := Aside0.mk (below_step (by repeat (first | (with_reducible first | exact HB.out | apply below_alloc | apply pw_below_drewN | apply below_drew1) | exact HB.out)) hb); have n1_ := Aside0.mk (hbox); have n2_ := Aside0.mk ((by rw [hg]; exact (below_size (by repeat (first | (with_reducible first | exact HB.out | apply below_alloc | apply pw_below_drewN | apply below_drew1) | exact HB.out))) : w.heap.size ≤ gb131)); have n3_ := Aside0.mk ((by rw [hg]; exact (below_size (by repeat (first | (with_reducible first | exact HB.out | apply below_alloc | apply pw_below_drewN | apply below_drew1) | exact HB.out))) : w.heap.size ≤ gb131)); clear HB; have HB := n0_; have BK131 := n1_; have GW131 := n2_; have GE131 := n3_; clear n0_ n1_ n2_ n3_; clear hb hbox hg))
          have n0_ := Aside0.mk (blk_drew BK131.out)
          have n1_ := Aside0.mk (below_drew1 HB.out)
          clear BK131
          clear HB
          have BK131 := n0_
          have HB := n1_
          clear n0_ n1_
          refine start_ (n := 14) (S := fun w' => w'.cell? ⟨gb131, 0, none⟩ = some (.slice A1_0 l1_0.length c1_0) ∧ w'.cell? ⟨gb131, 1, none⟩ = some (.slice A1_1 l1_1.length c1_1) ∧ w'.cell? ⟨gb131, 2, none⟩ = some (.bool a1_2) ∧ w'.cell? ⟨gb131, 3, none⟩ = some (.int .i64 a1_3) ∧ w'.cell? ⟨gb131, 4, none⟩ = some (.bool a1_4) ∧ w'.cell? ⟨gb131, 5, none⟩ = some (.int .i64 a1_5) ∧ w'.cell? ⟨gb131, 6, none⟩ = some (.int .i64 a1_6) ∧ w'.cell? ⟨gb131, 7, none⟩ = some (.int .i64 a1_7) ∧ w'.cell? ⟨gb131, 8, none⟩ = some (.int .i64 a1_8) ∧ w'.cell? ⟨gb131, 9, none⟩ = some (.int .i64 a1_9) ∧ w'.cell? ⟨gb131, 10, none⟩ = some (.slice A1_10 l1_10.length c1_10) ∧ w'.cell? ⟨gb131, 11, none⟩ = some (.slice A1_11 l1_11.length c1_11) ∧ w'.cell? ⟨gb131, 12, none⟩ = some (.bool a1_12) ∧ w'.cell? ⟨gb131, 13, none⟩ = some (.slice A1_13 l1_13.length c1_13) ∧ w'.cell? ⟨gb131, 14, none⟩ = some (.bool a1_14) ∧ w'.cell? ⟨gb131, 15, none⟩ = some (.int .i64 a1_15) ∧ w'.cell? ⟨gb131, 16, none⟩ = some (.int .i64 a1_16) ∧ w'.cell? ⟨gb131, 17, none⟩ = some (.int .i64 a1_17) ∧ w'.cell? ⟨gb131, 18, none⟩ = some (.int .i64 a1_18) ∧ w'.cell? ⟨gb131, 19, none⟩ = some (.int .i64 a1_19) ∧ w'.cell? ⟨gb131, 20, none⟩ = some (.bool a1_20) ∧ w'.cell? ⟨gb131, 21, none⟩ = some (.bool a1_21) ∧ w'.cell? ⟨gb131, 22, none⟩ = some (.bool a1_22) ∧ w'.cell? ⟨gb131, 23, none⟩ = some (.slice A1_23 l1_23.length c1_23) ∧ w'.cell? ⟨gb131, 24, none⟩ = some (.slice A1_24 l1_24.length c1_24) ∧ w'.cell? ⟨gb131, 25, none⟩ = some (.slice A1_25 l1_25.length c1_25) ∧ w'.cell? ⟨gb131, 26, none⟩ = some (.slice A1_26 l1_26.length c1_26)) (ds := []) #[false, false, false, false, false, false, false, false, false, false, false, false, false, false] (by kernel_rfl) rfl rfl ⟨(blk_cell BK131.out 0).trans rfl, (blk_cell BK131.out 1).trans rfl, (blk_cell BK131.out 2).trans rfl, (blk_cell BK131.out 3).trans rfl, (blk_cell BK131.out 4).trans rfl, (blk_cell BK131.out 5).trans rfl, (blk_cell BK131.out 6).trans rfl, (blk_cell BK131.out 7).trans rfl, (blk_cell BK131.out 8).trans rfl, (blk_cell BK131.out 9).trans rfl, (blk_cell BK131.out 10).trans rfl, (blk_cell BK131.out 11).trans rfl, (blk_cell BK131.out 12).trans rfl, (blk_cell BK131.out 13).trans rfl, (blk_cell BK131.out 14).trans rfl, (blk_cell BK131.out 15).trans rfl, (blk_cell BK131.out 16).trans rfl, (blk_cell BK131.out 17).trans rfl, (blk_cell BK131.out 18).trans rfl, (blk_cell BK131.out 19).trans rfl, (blk_cell BK131.out 20).trans rfl, (blk_cell BK131.out 21).trans rfl, (blk_cell BK131.out 22).trans rfl, (blk_cell BK131.out 23).trans rfl, (blk_cell BK131.out 24).trans rfl, (blk_cell BK131.out 25).trans rfl, (blk_cell BK131.out 26).trans rfl⟩ (fun hHeld => ?_); refine with_tabW view_Where.tab1 view_Where.bits1 (fun HT_ HW_ => ?_)
          generalize w33.drew = w34 at BK131 HB hHeld ⊢
          refine pure_ (i := 0) (N := some 6) (v := ?_) (a' := ?_) #[true, false, false, false, false, false, false, false, false, false, false, false, false, false] rfl rfl (any_of HT_.out (by kernel_rfl)) (fun _ _ _ h => h) (Or.inl ⟨by rfl, ?_⟩) ?_ ?_
          rotate_left
          · intro w'
            go_simp
            with_reducible rfl
          rotate_left
          · simp only [Act.put, List.setIfInBounds_toArray, List.set_cons_zero, List.set_cons_succ, i64_w, i32_w]
            rfl
          refine pure_ (i := 2) (N := some 8) (v := ?_) (a' := ?_) #[true, false, true, false, false, false, false, false, false, false, false, false, false, false] rfl rfl (any_of HT_.out (by kernel_rfl)) (fun _ _ _ h => h) (Or.inl ⟨by rfl, ?_⟩) ?_ ?_
          rotate_left
          · intro w'
            go_simp
            with_reducible rfl
          rotate_left
          · simp only [Act.put, List.setIfInBounds_toArray, List.set_cons_zero, List.set_cons_succ, i64_w, i32_w]
            rfl
          refine pure_ (i := 3) (N := some 9) (v := ?_) (a' := ?_) #[true, false, true, true, false, false, false, false, false, false, false, false, false, false] rfl rfl (any_of HT_.out (by kernel_rfl)) (fun _ _ _ h => h) (Or.inl ⟨by rfl, ?_⟩) ?_ ?_
          rotate_left
          · intro w'
            go_simp
            with_reducible rfl
          rotate_left
          · simp only [Act.put, List.setIfInBounds_toArray, List.set_cons_zero, List.set_cons_succ, i64_w, i32_w]
            rfl
          refine pure_ (i := 6) (N := some 12) (v := ?_) (a' := ?_) #[true, false, true, true, false, false, true, false, false, false, false, false, false, false] rfl rfl (any_of HT_.out (by kernel_rfl)) (fun _ _ _ h => h) (Or.inl ⟨by rfl, ?_⟩) ?_ ?_
          rotate_left
          · intro w'
            go_simp
            with_reducible rfl
          rotate_left
          · simp only [Act.put, List.setIfInBounds_toArray, List.set_cons_zero, List.set_cons_succ, i64_w, i32_w]
            rfl
          refine pure_ (i := 9) (N := some 15) (v := ?_) (a' := ?_) #[true, false, true, true, false, false, true, false, false, true, false, false, false, false] rfl rfl (any_of HT_.out (by kernel_rfl)) (fun _ _ _ h => h) (Or.inl ⟨by rfl, ?_⟩) ?_ ?_
          rotate_left
          · intro w'
            go_simp
            with_reducible rfl
          rotate_left
          · simp only [Act.put, List.setIfInBounds_toArray, List.set_cons_zero, List.set_cons_succ, i64_w, i32_w]
            rfl
          refine take_ (i := 4) (N := some 10) (v := ?_) (a' := ?_) #[true, false, true, true, true, false, true, false, false, true, false, false, false, false] rfl rfl (take_ofW HT_.out HW_.out (by kernel_rfl)) (fun _ _ _ h => h) (Or.inl ⟨by rfl, ?_⟩) hHeld ?_ ?_
          rotate_left
          · rintro w' ⟨s0, s1, s2, s3, s4, s5, s6, s7, s8, s9, s10, s11, s12, s13, s14, s15, s16, s17, s18, s19, s20, s21, s22, s23, s24, s25, s26⟩
            go_simp
            with_reducible rfl
          rotate_left
          · simp only [Act.put, List.setIfInBounds_toArray, List.set_cons_zero, List.set_cons_succ, i64_w, i32_w]
            rfl
          refine take_ (i := 7) (N := some 13) (v := ?_) (a' := ?_) #[true, false, true, true, true, false, true, true, false, true, false, false, false, false] rfl rfl (take_ofW HT_.out HW_.out (by kernel_rfl)) (fun _ _ _ h => h) (Or.inl ⟨by rfl, ?_⟩) hHeld ?_ ?_
          rotate_left
          · rintro w' ⟨s0, s1, s2, s3, s4, s5, s6, s7, s8, s9, s10, s11, s12, s13, s14, s15, s16, s17, s18, s19, s20, s21, s22, s23, s24, s25, s26⟩
            go_simp
            with_reducible rfl
          rotate_left
          · simp only [Act.put, List.setIfInBounds_toArray, List.set_cons_zero, List.set_cons_succ, i64_w, i32_w]
            rfl
          refine take_ (i := 10) (N := some 16) (v := ?_) (a' := ?_) #[true, false, true, true, true, false, true, true, false, true, true, false, false, false] rfl rfl (take_ofW HT_.out HW_.out (by kernel_rfl)) (fun _ _ _ h => h) (Or.inl ⟨by rfl, ?_⟩) hHeld ?_ ?_
          rotate_left
          · rintro w' ⟨s0, s1, s2, s3, s4, s5, s6, s7, s8, s9, s10, s11, s12, s13, s14, s15, s16, s17, s18, s19, s20, s21, s22, s23, s24, s25, s26⟩
            go_simp
            with_reducible rfl
          rotate_left
          · simp only [Act.put, List.setIfInBounds_toArray, List.set_cons_zero, List.set_cons_succ, i64_w, i32_w]
            rfl
          refine one_ (i := 1) (N := some 7) #[true, true, true, true, true, false, true, true, false, true, true, false, false, false] rfl rfl (one_of HT_.out (by kernel_rfl)) (by decide) (fun K hK => ?_)
          refine goes_ Tryd.func13 (by kernel_rfl) rfl #[.int .i64 a0] (by rfl) rfl rfl (by (try simp only [List.map_toArray, List.map_cons, List.map_nil]); first | done | rfl | (simp only [List.length_drop, List.length_take]; rfl)) ?_
          with_reducible refine (digit_Text.calls a0 t132 _ (TW0_.out.below (by repeat (first | (with_reducible first | exact HB.out | apply below_alloc | apply pw_below_drewN | apply below_drew1 | refine below_set ?_ GE131.out) | exact HB.out))) A3.out).mono ?_
          rintro e w35 ⟨rfl, hb⟩
          refine ⟨_, rfl, ?_⟩
          have n0_ := Aside0.mk (blk_below (g := gb131) (o := .cells #[.slice A1_0 l1_0.length c1_0, .slice A1_1 l1_1.length c1_1, .bool a1_2, .int .i64 a1_3, .bool a1_4, .int .i64 a1_5, .int .i64 a1_6, .int .i64 a1_7, .int .i64 a1_8, .int .i64 a1_9, .slice A1_10 l1_10.length c1_10, .slice A1_11 l1_11.length c1_11, .bool a1_12, .slice A1_13 l1_13.length c1_13, .bool a1_14, .int .i64 a1_15, .int .i64 a1_16, .int .i64 a1_17, .int .i64 a1_18, .int .i64 a1_19, .bool a1_20, .bool a1_21, .bool a1_22, .slice A1_23 l1_23.length c1_23, .slice A1_24 l1_24.length c1_24, .slice A1_25 l1_25.length c1_25, .slice A1_26 l1_26.length c1_26] 34 (0, 0)) (by (with_reducible repeat (first | refine blk_drewN ?_ _ | refine blk_drew ?_ | refine blk_alloc ?_ _)); exact BK131.out) hb)
          have n1_ := Aside0.mk (below_step (by repeat (first | (with_reducible first | exact HB.out | apply below_alloc | apply pw_below_drewN | apply below_drew1 | refine below_set ?_ GE131.out) | exact HB.out)) hb)
          clear BK131
          clear HB
          have BK131 := n0_
          have HB := n1_
          clear n0_ n1_
          (try clear hb)
          (try clear hb2)
          (try clear hk)
          (try clear hi)
          refine hK.out _ _ ⟨(blk_cell BK131.out 0).trans rfl, (blk_cell BK131.out 1).trans rfl, (blk_cell BK131.out 2).trans rfl, (blk_cell BK131.out 3).trans rfl, (blk_cell BK131.out 4).trans rfl, (blk_cell BK131.out 5).trans rfl, (blk_cell BK131.out 6).trans rfl, (blk_cell BK131.out 7).trans rfl, (blk_cell BK131.out 8).trans rfl, (blk_cell BK131.out 9).trans rfl, (blk_cell BK131.out 10).trans rfl, (blk_cell BK131.out 11).trans rfl, (blk_cell BK131.out 12).trans rfl, (blk_cell BK131.out 13).trans rfl, (blk_cell BK131.out 14).trans rfl, (blk_cell BK131.out 15).trans rfl, (blk_cell BK131.out 16).trans rfl, (blk_cell BK131.out 17).trans rfl, (blk_cell BK131.out 18).trans rfl, (blk_cell BK131.out 19).trans rfl, (blk_cell BK131.out 20).trans rfl, (blk_cell BK131.out 21).trans rfl, (blk_cell BK131.out 22).trans rfl, (blk_cell BK131.out 23).trans rfl, (blk_cell BK131.out 24).trans rfl, (blk_cell BK131.out 25).trans rfl, (blk_cell BK131.out 26).trans rfl⟩ (fun hHeld => ?_)
          clear hK K
          refine norm_ (a' := ?_) ?_ ?_
          rotate_left
          · show Act.put _ (some 7) _ = _
            simp only [Act.put, List.setIfInBounds_toArray, List.set_cons_zero, List.set_cons_succ, i64_w, i32_w]
            rfl
          refine one_ (i := 5) (N := some 11) #[true, true, true, true, true, true, true, true, false, true, true, false, false, false] rfl rfl (one_of HT_.out (by kernel_rfl)) (by decide) (fun K hK => ?_)
          refine goes_ Tryd.func13 (by kernel_rfl) rfl #[.int .i64 a1_3] (by rfl) rfl rfl (by (try simp only [List.map_toArray, List.map_cons, List.map_nil]); first | done | rfl | (simp only [List.length_drop, List.length_take]; rfl)) ?_
          with_reducible refine (digit_Text.calls a1_3 t133 _ (TW0_.out.below (by repeat (first | (with_reducible first | exact HB.out | apply below_alloc | apply pw_below_drewN | apply below_drew1 | refine below_set ?_ GE131.out) | exact HB.out))) A4.out).mono ?_
          rintro e w36 ⟨rfl, hb⟩
          refine ⟨_, rfl, ?_⟩
          have n0_ := Aside0.mk (blk_below (g := gb131) (o := .cells #[.slice A1_0 l1_0.length c1_0, .slice A1_1 l1_1.length c1_1, .bool a1_2, .int .i64 a1_3, .bool a1_4, .int .i64 a1_5, .int .i64 a1_6, .int .i64 a1_7, .int .i64 a1_8, .int .i64 a1_9, .slice A1_10 l1_10.length c1_10, .slice A1_11 l1_11.length c1_11, .bool a1_12, .slice A1_13 l1_13.length c1_13, .bool a1_14, .int .i64 a1_15, .int .i64 a1_16, .int .i64 a1_17, .int .i64 a1_18, .int .i64 a1_19, .bool a1_20, .bool a1_21, .bool a1_22, .slice A1_23 l1_23.length c1_23, .slice A1_24 l1_24.length c1_24, .slice A1_25 l1_25.length c1_25, .slice A1_26 l1_26.length c1_26] 34 (0, 0)) (by (with_reducible repeat (first | refine blk_drewN ?_ _ | refine blk_drew ?_ | refine blk_alloc ?_ _)); exact BK131.out) hb)
          have n1_ := Aside0.mk (below_step (by repeat (first | (with_reducible first | exact HB.out | apply below_alloc | apply pw_below_drewN | apply below_drew1 | refine below_set ?_ GE131.out) | exact HB.out)) hb)
          clear BK131
          clear HB
          have BK131 := n0_
          have HB := n1_
          clear n0_ n1_
          (try clear hb)
          (try clear hb2)
          (try clear hk)
          (try clear hi)
          refine hK.out _ _ ⟨(blk_cell BK131.out 0).trans rfl, (blk_cell BK131.out 1).trans rfl, (blk_cell BK131.out 2).trans rfl, (blk_cell BK131.out 3).trans rfl, (blk_cell BK131.out 4).trans rfl, (blk_cell BK131.out 5).trans rfl, (blk_cell BK131.out 6).trans rfl, (blk_cell BK131.out 7).trans rfl, (blk_cell BK131.out 8).trans rfl, (blk_cell BK131.out 9).trans rfl, (blk_cell BK131.out 10).trans rfl, (blk_cell BK131.out 11).trans rfl, (blk_cell BK131.out 12).trans rfl, (blk_cell BK131.out 13).trans rfl, (blk_cell BK131.out 14).trans rfl, (blk_cell BK131.out 15).trans rfl, (blk_cell BK131.out 16).trans rfl, (blk_cell BK131.out 17).trans rfl, (blk_cell BK131.out 18).trans rfl, (blk_cell BK131.out 19).trans rfl, (blk_cell BK131.out 20).trans rfl, (blk_cell BK131.out 21).trans rfl, (blk_cell BK131.out 22).trans rfl, (blk_cell BK131.out 23).trans rfl, (blk_cell BK131.out 24).trans rfl, (blk_cell BK131.out 25).trans rfl, (blk_cell BK131.out 26).trans rfl⟩ (fun hHeld => ?_)
          clear hK K
          refine norm_ (a' := ?_) ?_ ?_
          rotate_left
          · show Act.put _ (some 11) _ = _
            simp only [Act.put, List.setIfInBounds_toArray, List.set_cons_zero, List.set_cons_succ, i64_w, i32_w]
            rfl
          refine one_ (i := 8) (N := some 14) #[true, true, true, true, true, true, true, true, true, true, true, false, false, false] rfl rfl (one_of HT_.out (by kernel_rfl)) (by decide) (fun K hK => ?_)
          refine goes_ Tryd.func13 (by kernel_rfl) rfl #[.int .i64 a1_16] (by rfl) rfl rfl (by (try simp only [List.map_toArray, List.map_cons, List.map_nil]); first | done | rfl | (simp only [List.length_drop, List.length_take]; rfl)) ?_
          with_reducible refine (digit_Text.calls a1_16 t134 _ (TW0_.out.below (by repeat (first | (with_reducible first | exact HB.out | apply below_alloc | apply pw_below_drewN | apply below_drew1 | refine below_set ?_ GE131.out) | exact HB.out))) A5.out).mono ?_
          rintro e w37 ⟨rfl, hb⟩
          refine ⟨_, rfl, ?_⟩
          have n0_ := Aside0.mk (blk_below (g := gb131) (o := .cells #[.slice A1_0 l1_0.length c1_0, .slice A1_1 l1_1.length c1_1, .bool a1_2, .int .i64 a1_3, .bool a1_4, .int .i64 a1_5, .int .i64 a1_6, .int .i64 a1_7, .int .i64 a1_8, .int .i64 a1_9, .slice A1_10 l1_10.length c1_10, .slice A1_11 l1_11.length c1_11, .bool a1_12, .slice A1_13 l1_13.length c1_13, .bool a1_14, .int .i64 a1_15, .int .i64 a1_16, .int .i64 a1_17, .int .i64 a1_18, .int .i64 a1_19, .bool a1_20, .bool a1_21, .bool a1_22, .slice A1_23 l1_23.length c1_23, .slice A1_24 l1_24.length c1_24, .slice A1_25 l1_25.length c1_25, .slice A1_26 l1_26.length c1_26] 34 (0, 0)) (by (with_reducible repeat (first | refine blk_drewN ?_ _ | refine blk_drew ?_ | refine blk_alloc ?_ _)); exact BK131.out) hb)
          have n1_ := Aside0.mk (below_step (by repeat (first | (with_reducible first | exact HB.out | apply below_alloc | apply pw_below_drewN | apply below_drew1 | refine below_set ?_ GE131.out) | exact HB.out)) hb)
          clear BK131
          clear HB
          have BK131 := n0_
          have HB := n1_
          clear n0_ n1_
          (try clear hb)
          (try clear hb2)
          (try clear hk)
          (try clear hi)
          refine hK.out _ _ ⟨(blk_cell BK131.out 0).trans rfl, (blk_cell BK131.out 1).trans rfl, (blk_cell BK131.out 2).trans rfl, (blk_cell BK131.out 3).trans rfl, (blk_cell BK131.out 4).trans rfl, (blk_cell BK131.out 5).trans rfl, (blk_cell BK131.out 6).trans rfl, (blk_cell BK131.out 7).trans rfl, (blk_cell BK131.out 8).trans rfl, (blk_cell BK131.out 9).trans rfl, (blk_cell BK131.out 10).trans rfl, (blk_cell BK131.out 11).trans rfl, (blk_cell BK131.out 12).trans rfl, (blk_cell BK131.out 13).trans rfl, (blk_cell BK131.out 14).trans rfl, (blk_cell BK131.out 15).trans rfl, (blk_cell BK131.out 16).trans rfl, (blk_cell BK131.out 17).trans rfl, (blk_cell BK131.out 18).trans rfl, (blk_cell BK131.out 19).trans rfl, (blk_cell BK131.out 20).trans rfl, (blk_cell BK131.out 21).trans rfl, (blk_cell BK131.out 22).trans rfl, (blk_cell BK131.out 23).trans rfl, (blk_cell BK131.out 24).trans rfl, (blk_cell BK131.out 25).trans rfl, (blk_cell BK131.out 26).trans rfl⟩ (fun hHeld => ?_)
          clear hK K
          refine norm_ (a' := ?_) ?_ ?_
          rotate_left
          · show Act.put _ (some 14) _ = _
            simp only [Act.put, List.setIfInBounds_toArray, List.set_cons_zero, List.set_cons_succ, i64_w, i32_w]
            rfl
          refine one_ (i := 11) (N := some 17) #[true, true, true, true, true, true, true, true, true, true, true, true, false, false] rfl rfl (one_of HT_.out (by kernel_rfl)) (by decide) (fun K hK => ?_)
          refine goes_ Tryd.func14 (by kernel_rfl) rfl #[.int .i64 a1_15] (by rfl) rfl rfl (by (try simp only [List.map_toArray, List.map_cons, List.map_nil]); first | done | rfl | (simp only [List.length_drop, List.length_take]; rfl)) ?_
          with_reducible refine (view_phase.calls a1_15 t135 _ (TW0_.out.below (by repeat (first | (with_reducible first | exact HB.out | apply below_alloc | apply pw_below_drewN | apply below_drew1 | refine below_set ?_ GE131.out) | exact HB.out))) A6.out).mono ?_
          rintro e w38 ⟨rfl, hb⟩
          refine ⟨_, rfl, ?_⟩
          have n0_ := Aside0.mk (blk_below (g := gb131) (o := .cells #[.slice A1_0 l1_0.length c1_0, .slice A1_1 l1_1.length c1_1, .bool a1_2, .int .i64 a1_3, .bool a1_4, .int .i64 a1_5, .int .i64 a1_6, .int .i64 a1_7, .int .i64 a1_8, .int .i64 a1_9, .slice A1_10 l1_10.length c1_10, .slice A1_11 l1_11.length c1_11, .bool a1_12, .slice A1_13 l1_13.length c1_13, .bool a1_14, .int .i64 a1_15, .int .i64 a1_16, .int .i64 a1_17, .int .i64 a1_18, .int .i64 a1_19, .bool a1_20, .bool a1_21, .bool a1_22, .slice A1_23 l1_23.length c1_23, .slice A1_24 l1_24.length c1_24, .slice A1_25 l1_25.length c1_25, .slice A1_26 l1_26.length c1_26] 34 (0, 0)) (by (with_reducible repeat (first | refine blk_drewN ?_ _ | refine blk_drew ?_ | refine blk_alloc ?_ _)); exact BK131.out) hb)
          have n1_ := Aside0.mk (below_step (by repeat (first | (with_reducible first | exact HB.out | apply below_alloc | apply pw_below_drewN | apply below_drew1 | refine below_set ?_ GE131.out) | exact HB.out)) hb)
          clear BK131
          clear HB
          have BK131 := n0_
          have HB := n1_
          clear n0_ n1_
          (try clear hb)
          (try clear hb2)
          (try clear hk)
          (try clear hi)
          refine hK.out _ _ ⟨(blk_cell BK131.out 0).trans rfl, (blk_cell BK131.out 1).trans rfl, (blk_cell BK131.out 2).trans rfl, (blk_cell BK131.out 3).trans rfl, (blk_cell BK131.out 4).trans rfl, (blk_cell BK131.out 5).trans rfl, (blk_cell BK131.out 6).trans rfl, (blk_cell BK131.out 7).trans rfl, (blk_cell BK131.out 8).trans rfl, (blk_cell BK131.out 9).trans rfl, (blk_cell BK131.out 10).trans rfl, (blk_cell BK131.out 11).trans rfl, (blk_cell BK131.out 12).trans rfl, (blk_cell BK131.out 13).trans rfl, (blk_cell BK131.out 14).trans rfl, (blk_cell BK131.out 15).trans rfl, (blk_cell BK131.out 16).trans rfl, (blk_cell BK131.out 17).trans rfl, (blk_cell BK131.out 18).trans rfl, (blk_cell BK131.out 19).trans rfl, (blk_cell BK131.out 20).trans rfl, (blk_cell BK131.out 21).trans rfl, (blk_cell BK131.out 22).trans rfl, (blk_cell BK131.out 23).trans rfl, (blk_cell BK131.out 24).trans rfl, (blk_cell BK131.out 25).trans rfl, (blk_cell BK131.out 26).trans rfl⟩ (fun hHeld => ?_)
          clear hK K
          refine norm_ (a' := ?_) ?_ ?_
          rotate_left
          · show Act.put _ (some 17) _ = _
            simp only [Act.put, List.setIfInBounds_toArray, List.set_cons_zero, List.set_cons_succ, i64_w, i32_w]
            rfl
          refine one_ (i := 12) (N := some 18) #[true, true, true, true, true, true, true, true, true, true, true, true, true, false] rfl rfl (one_of HT_.out (by kernel_rfl)) (by decide) (fun K hK => ?_)
          refine Kd.R_lit_step Kd.string _ 9 ?hg (N := 18) ?hd (xs := ([(⟨#[115, 116, 101, 112]⟩ : ByteArray), t132, (⟨#[108, 105, 110, 101]⟩ : ByteArray), t133, (⟨#[112, 99]⟩ : ByteArray), t134, (⟨#[112, 104, 97, 115, 101]⟩ : ByteArray), t135] : List ByteArray)) (inner := [.string (⟨#[115, 116, 101, 112]⟩ : ByteArray), .string t132, .string (⟨#[108, 105, 110, 101]⟩ : ByteArray), .string t133, .string (⟨#[112, 99]⟩ : ByteArray), .string t134, .string (⟨#[112, 104, 97, 115, 101]⟩ : ByteArray), .string t135]) (ok := fun _ => True) (okp := fun _ => True) ?hr ?hp (fun _ hk => hk) trivial (Below.refl _ _) (Nat.le_refl _) (by simp) ?_; (case hd => rfl); (case hg => rfl); (case hr => first | (go_simp; done) | (go_simp; rfl)); (case hp => exact (Reps.one (show Kd.M Kd.string _ _ _ (⟨#[115, 116, 101, 112]⟩ : ByteArray) [.string (⟨#[115, 116, 101, 112]⟩ : ByteArray)] from rfl) (Reps.one (show Kd.M Kd.string _ _ _ t132 [.string t132] from rfl) (Reps.one (show Kd.M Kd.string _ _ _ (⟨#[108, 105, 110, 101]⟩ : ByteArray) [.string (⟨#[108, 105, 110, 101]⟩ : ByteArray)] from rfl) (Reps.one (show Kd.M Kd.string _ _ _ t133 [.string t133] from rfl) (Reps.one (show Kd.M Kd.string _ _ _ (⟨#[112, 99]⟩ : ByteArray) [.string (⟨#[112, 99]⟩ : ByteArray)] from rfl) (Reps.one (show Kd.M Kd.string _ _ _ t134 [.string t134] from rfl) (Reps.one (show Kd.M Kd.string _ _ _ (⟨#[112, 104, 97, 115, 101]⟩ : ByteArray) [.string (⟨#[112, 104, 97, 115, 101]⟩ : ByteArray)] from rfl) (Reps.one (show Kd.M Kd.string _ _ _ t135 [.string t135] from rfl) (Reps.none _ _))))))))))
          intro v137 w39 ho40 hb hg_ hnew_
          clear hg_ hnew_
          (first | rw [← Ny136.out] at ho40 | (simp only [Int.reduceToNat] at ho40; rw [← Ny136.out] at ho40))
          have n0_ := Aside0.mk (Kd.R_lower ho40 (below_size (by repeat (first | (with_reducible first | exact HB.out | apply below_alloc | apply pw_below_drewN | apply below_drew1 | refine below_set ?_ GE131.out) | exact HB.out))))
          have n1_ := Aside0.mk (blk_below (g := gb131) (o := .cells #[.slice A1_0 l1_0.length c1_0, .slice A1_1 l1_1.length c1_1, .bool a1_2, .int .i64 a1_3, .bool a1_4, .int .i64 a1_5, .int .i64 a1_6, .int .i64 a1_7, .int .i64 a1_8, .int .i64 a1_9, .slice A1_10 l1_10.length c1_10, .slice A1_11 l1_11.length c1_11, .bool a1_12, .slice A1_13 l1_13.length c1_13, .bool a1_14, .int .i64 a1_15, .int .i64 a1_16, .int .i64 a1_17, .int .i64 a1_18, .int .i64 a1_19, .bool a1_20, .bool a1_21, .bool a1_22, .slice A1_23 l1_23.length c1_23, .slice A1_24 l1_24.length c1_24, .slice A1_25 l1_25.length c1_25, .slice A1_26 l1_26.length c1_26] 34 (0, 0)) (by (with_reducible repeat (first | refine blk_drewN ?_ _ | refine blk_drew ?_ | refine blk_alloc ?_ _)); exact BK131.out) hb)
          have n2_ := Aside0.mk (below_step (by repeat (first | (with_reducible first | exact HB.out | apply below_alloc | apply pw_below_drewN | apply below_drew1 | refine below_set ?_ GE131.out) | exact HB.out)) hb)
          clear BK131
          clear HB
          have HO138 := n0_
          have BK131 := n1_
          have HB := n2_
          clear n0_ n1_ n2_
          clear hb ho40
          refine hK.out _ _ ⟨(blk_cell BK131.out 0).trans rfl, (blk_cell BK131.out 1).trans rfl, (blk_cell BK131.out 2).trans rfl, (blk_cell BK131.out 3).trans rfl, (blk_cell BK131.out 4).trans rfl, (blk_cell BK131.out 5).trans rfl, (blk_cell BK131.out 6).trans rfl, (blk_cell BK131.out 7).trans rfl, (blk_cell BK131.out 8).trans rfl, (blk_cell BK131.out 9).trans rfl, (blk_cell BK131.out 10).trans rfl, (blk_cell BK131.out 11).trans rfl, (blk_cell BK131.out 12).trans rfl, (blk_cell BK131.out 13).trans rfl, (blk_cell BK131.out 14).trans rfl, (blk_cell BK131.out 15).trans rfl, (blk_cell BK131.out 16).trans rfl, (blk_cell BK131.out 17).trans rfl, (blk_cell BK131.out 18).trans rfl, (blk_cell BK131.out 19).trans rfl, (blk_cell BK131.out 20).trans rfl, (blk_cell BK131.out 21).trans rfl, (blk_cell BK131.out 22).trans rfl, (blk_cell BK131.out 23).trans rfl, (blk_cell BK131.out 24).trans rfl, (blk_cell BK131.out 25).trans rfl, (blk_cell BK131.out 26).trans rfl⟩ (fun hHeld => ?_)
          clear hK K
          refine norm_ (a' := ?_) ?_ ?_
          rotate_left
          · show Act.put _ (some 18) _ = _
            simp only [Act.put, List.setIfInBounds_toArray, List.set_cons_zero, List.set_cons_succ, i64_w, i32_w]
            rfl
          refine pure_ (i := 13) (N := some 5) (v := ?_) (a' := ?_) #[true, true, true, true, true, true, true, true, true, true, true, true, true, true] rfl rfl (any_of HT_.out (by kernel_rfl)) (fun _ _ _ h => h) (Or.inl ⟨by rfl, ?_⟩) ?_ ?_
          rotate_left
          · intro w'
            go_simp
            with_reducible rfl
          rotate_left
          · simp only [Act.put, List.setIfInBounds_toArray, List.set_cons_zero, List.set_cons_succ, i64_w, i32_w]
            rfl
          refine done_ (done_of HT_.out (by kernel_rfl)) ?_
          have hcz41_0 : w39.cell? ⟨gb131, 0, none⟩ = some (.slice A1_0 l1_0.length c1_0) := (blk_cell BK131.out 0).trans rfl
          have hcz41_1 : w39.cell? ⟨gb131, 1, none⟩ = some (.slice A1_1 l1_1.length c1_1) := (blk_cell BK131.out 1).trans rfl
          have hcz41_2 : w39.cell? ⟨gb131, 2, none⟩ = some (.bool a1_2) := (blk_cell BK131.out 2).trans rfl
          have hcz41_3 : w39.cell? ⟨gb131, 3, none⟩ = some (.int .i64 a1_3) := (blk_cell BK131.out 3).trans rfl
          have hcz41_4 : w39.cell? ⟨gb131, 4, none⟩ = some (.bool a1_4) := (blk_cell BK131.out 4).trans rfl
          have hcz41_5 : w39.cell? ⟨gb131, 5, none⟩ = some (.int .i64 a1_5) := (blk_cell BK131.out 5).trans rfl
          have hcz41_6 : w39.cell? ⟨gb131, 6, none⟩ = some (.int .i64 a1_6) := (blk_cell BK131.out 6).trans rfl
          have hcz41_7 : w39.cell? ⟨gb131, 7, none⟩ = some (.int .i64 a1_7) := (blk_cell BK131.out 7).trans rfl
          have hcz41_8 : w39.cell? ⟨gb131, 8, none⟩ = some (.int .i64 a1_8) := (blk_cell BK131.out 8).trans rfl
          have hcz41_9 : w39.cell? ⟨gb131, 9, none⟩ = some (.int .i64 a1_9) := (blk_cell BK131.out 9).trans rfl
          have hcz41_10 : w39.cell? ⟨gb131, 10, none⟩ = some (.slice A1_10 l1_10.length c1_10) := (blk_cell BK131.out 10).trans rfl
          have hcz41_11 : w39.cell? ⟨gb131, 11, none⟩ = some (.slice A1_11 l1_11.length c1_11) := (blk_cell BK131.out 11).trans rfl
          have hcz41_12 : w39.cell? ⟨gb131, 12, none⟩ = some (.bool a1_12) := (blk_cell BK131.out 12).trans rfl
          have hcz41_13 : w39.cell? ⟨gb131, 13, none⟩ = some (.slice A1_13 l1_13.length c1_13) := (blk_cell BK131.out 13).trans rfl
          have hcz41_14 : w39.cell? ⟨gb131, 14, none⟩ = some (.bool a1_14) := (blk_cell BK131.out 14).trans rfl
          have hcz41_15 : w39.cell? ⟨gb131, 15, none⟩ = some (.int .i64 a1_15) := (blk_cell BK131.out 15).trans rfl
          have hcz41_16 : w39.cell? ⟨gb131, 16, none⟩ = some (.int .i64 a1_16) := (blk_cell BK131.out 16).trans rfl
          have hcz41_17 : w39.cell? ⟨gb131, 17, none⟩ = some (.int .i64 a1_17) := (blk_cell BK131.out 17).trans rfl
          have hcz41_18 : w39.cell? ⟨gb131, 18, none⟩ = some (.int .i64 a1_18) := (blk_cell BK131.out 18).trans rfl
          have hcz41_19 : w39.cell? ⟨gb131, 19, none⟩ = some (.int .i64 a1_19) := (blk_cell BK131.out 19).trans rfl
          have hcz41_20 : w39.cell? ⟨gb131, 20, none⟩ = some (.bool a1_20) := (blk_cell BK131.out 20).trans rfl
          have hcz41_21 : w39.cell? ⟨gb131, 21, none⟩ = some (.bool a1_21) := (blk_cell BK131.out 21).trans rfl
          have hcz41_22 : w39.cell? ⟨gb131, 22, none⟩ = some (.bool a1_22) := (blk_cell BK131.out 22).trans rfl
          have hcz41_23 : w39.cell? ⟨gb131, 23, none⟩ = some (.slice A1_23 l1_23.length c1_23) := (blk_cell BK131.out 23).trans rfl
          have hcz41_24 : w39.cell? ⟨gb131, 24, none⟩ = some (.slice A1_24 l1_24.length c1_24) := (blk_cell BK131.out 24).trans rfl
          have hcz41_25 : w39.cell? ⟨gb131, 25, none⟩ = some (.slice A1_25 l1_25.length c1_25) := (blk_cell BK131.out 25).trans rfl
          have hcz41_26 : w39.cell? ⟨gb131, 26, none⟩ = some (.slice A1_26 l1_26.length c1_26) := (blk_cell BK131.out 26).trans rfl
          have hfz41_0 := blk_frozen BK131.out 0
          have hfz41_1 := blk_frozen BK131.out 1
          have hfz41_2 := blk_frozen BK131.out 2
          have hfz41_3 := blk_frozen BK131.out 3
          have hfz41_4 := blk_frozen BK131.out 4
          have hfz41_5 := blk_frozen BK131.out 5
          have hfz41_6 := blk_frozen BK131.out 6
          have hfz41_7 := blk_frozen BK131.out 7
          have hfz41_8 := blk_frozen BK131.out 8
          have hfz41_9 := blk_frozen BK131.out 9
          have hfz41_10 := blk_frozen BK131.out 10
          have hfz41_11 := blk_frozen BK131.out 11
          have hfz41_12 := blk_frozen BK131.out 12
          have hfz41_13 := blk_frozen BK131.out 13
          have hfz41_14 := blk_frozen BK131.out 14
          have hfz41_15 := blk_frozen BK131.out 15
          have hfz41_16 := blk_frozen BK131.out 16
          have hfz41_17 := blk_frozen BK131.out 17
          have hfz41_18 := blk_frozen BK131.out 18
          have hfz41_19 := blk_frozen BK131.out 19
          have hfz41_20 := blk_frozen BK131.out 20
          have hfz41_21 := blk_frozen BK131.out 21
          have hfz41_22 := blk_frozen BK131.out 22
          have hfz41_23 := blk_frozen BK131.out 23
          have hfz41_24 := blk_frozen BK131.out 24
          have hfz41_25 := blk_frozen BK131.out 25
          have hfz41_26 := blk_frozen BK131.out 26
          try go_wp2_with (first | ((with_reducible refine gate_callee (f := 13) rfl ?_); refine goesL_ (some 25) rfl rfl Tryd.func13 (by kernel_rfl) rfl #[.int .i64 a1_17] rfl (by (try simp only [List.map_toArray, List.map_cons, List.map_nil]); first | done | rfl | (simp only [List.length_drop, List.length_take]; rfl)) ?_; (with_reducible refine (digit_Text.calls a1_17 t139 _ (TW0_.out.below (by repeat (first | (with_reducible first | exact HB.out | apply below_alloc | apply pw_below_drewN | apply below_drew1 | refine below_set ?_ GE131.out) | exact HB.out))) A8.out).mono ?_); rintro e w42 ⟨rfl, hb⟩; refine ⟨_, rfl, ?_⟩; have n0_ := Aside0.mk (Kd.R_below (by (with_reducible repeat (first | apply Kd.R_alloc | apply Kd.R_drewN | apply Kd.R_drew)); exact HO138.out) hb); have n1_ := Aside0.mk (blk_below (g := gb131) (o := .cells #[.slice A1_0 l1_0.length c1_0, .slice A1_1 l1_1.length c1_1, .bool a1_2, .int .i64 a1_3, .bool a1_4, .int .i64 a1_5, .int .i64 a1_6, .int .i64 a1_7, .int .i64 a1_8, .int .i64 a1_9, .slice A1_10 l1_10.length c1_10, .slice A1_11 l1_11.length c1_11, .bool a1_12, .slice A1_13 l1_13.length c1_13, .bool a1_14, .int .i64 a1_15, .int .i64 a1_16, .int .i64 a1_17, .int .i64 a1_18, .int .i64 a1_19, .bool a1_20, .bool a1_21, .bool a1_22, .slice A1_23 l1_23.length c1_23, .slice A1_24 l1_24.length c1_24, .slice A1_25 l1_25.length c1_25, .slice A1_26 l1_26.length c1_26] 34 (0, 0)) (by (with_reducible repeat (first | refine blk_drewN ?_ _ | refine blk_drew ?_ | refine blk_alloc ?_ _)); exact BK131.out) hb); have n2_ := Aside0.mk (below_step (by repeat (first | (with_reducible first | exact HB.out | apply below_alloc | apply pw_below_drewN | apply below_drew1 | refine below_set ?_ GE131.out) | exact HB.out)) hb); clear HO138; clear BK131; clear HB; have HO138 := n0_; have BK131 := n1_; have HB := n2_; clear n0_ n1_ n2_; (try clear hb); (try clear hb2); (try clear hk); (try clear hi)) | ((with_reducible refine gate_dst (N := 26) rfl ?_); refine Kd.R_lit Kd.string _ 9 ?hg (N := 26) ?hd (xs := ([(⟨#[101, 120, 105, 116]⟩ : ByteArray), t139] : List ByteArray)) (inner := [.string (⟨#[101, 120, 105, 116]⟩ : ByteArray), .string t139]) (ok := fun _ => True) (okp := fun _ => True) ?hr ?hp (fun _ hk => hk) trivial (Below.refl _ _) (Nat.le_refl _) (by simp) ?_; (case hd => rfl); (case hg => rfl); (case hr => first | (go_simp; done) | (go_simp; rfl)); (case hp => exact (Reps.one (show Kd.M Kd.string _ _ _ (⟨#[101, 120, 105, 116]⟩ : ByteArray) [.string (⟨#[101, 120, 105, 116]⟩ : ByteArray)] from rfl) (Reps.one (show Kd.M Kd.string _ _ _ t139 [.string t139] from rfl) (Reps.none _ _)))); intro v141 w43 ho44 hb hg_ hnew_; clear hg_ hnew_; (first | rw [← Ny140.out] at ho44 | (simp only [Int.reduceToNat] at ho44; rw [← Ny140.out] at ho44)); have n0_ := Aside0.mk (Kd.R_elder' (by (with_reducible repeat (first | apply Kd.R_alloc | apply Kd.R_drewN | apply Kd.R_drew)); exact HO138.out) (Kd.R_base ho44) hb); have n1_ := Aside0.mk (Kd.R_lower (Kd.R_new' ho44 (Kd.R_lt (by (with_reducible repeat (first | apply Kd.R_alloc | apply Kd.R_drewN | apply Kd.R_drew)); exact HO138.out))) (below_size (by repeat (first | (with_reducible first | exact HB.out | apply below_alloc | apply pw_below_drewN | apply below_drew1 | refine below_set ?_ GE131.out) | exact HB.out)))); have n2_ := Aside0.mk (blk_below (g := gb131) (o := .cells #[.slice A1_0 l1_0.length c1_0, .slice A1_1 l1_1.length c1_1, .bool a1_2, .int .i64 a1_3, .bool a1_4, .int .i64 a1_5, .int .i64 a1_6, .int .i64 a1_7, .int .i64 a1_8, .int .i64 a1_9, .slice A1_10 l1_10.length c1_10, .slice A1_11 l1_11.length c1_11, .bool a1_12, .slice A1_13 l1_13.length c1_13, .bool a1_14, .int .i64 a1_15, .int .i64 a1_16, .int .i64 a1_17, .int .i64 a1_18, .int .i64 a1_19, .bool a1_20, .bool a1_21, .bool a1_22, .slice A1_23 l1_23.length c1_23, .slice A1_24 l1_24.length c1_24, .slice A1_25 l1_25.length c1_25, .slice A1_26 l1_26.length c1_26] 34 (0, 0)) (by (with_reducible repeat (first | refine blk_drewN ?_ _ | refine blk_drew ?_ | refine blk_alloc ?_ _)); exact BK131.out) hb); have n3_ := Aside0.mk (below_step (by repeat (first | (with_reducible first | exact HB.out | apply below_alloc | apply pw_below_drewN | apply below_drew1 | refine below_set ?_ GE131.out) | exact HB.out)) hb); clear HO138; clear BK131; clear HB; have HO138 := n0_; have HO142 := n1_; have BK131 := n2_; have HB := n3_; clear n0_ n1_ n2_ n3_; clear hb ho44; obtain ⟨Ao46, co46, eo46⟩ := Kd.R_slice HO142.out; subst eo46) | ((with_reducible refine gate_builtin (b := .append) (xs := #[.tmp 22, .tmp 26]) rfl ?_); at_builtin; refine Kd.R_append_rows Kd.string (w0 := w) w.heap.size rfl (.tmp 22) (.tmp 26) 38 9 (.string ⟨#[]⟩) 16 rfl Tryd.underlying38 info9 rfl (by decide) (by omega) v137 y136 y140 _ _ _ (fun k_ => some k_ ≠ (.slice Ao46 y140.length co46 : Value).ownBlock) (fun _ => False) rfl rfl ?aO ?aR (fun _ _ h => h) (fun _ h => h.elim) ?aF ?aB ?aS ?aL ?_; (case aR => repeat (first | exact (Kd.R_reads' HO142.out).2.2 | (with_reducible refine Kd.C_alloc ?_ _) | (with_reducible refine Kd.C_drewN ?_ _) | (with_reducible refine Kd.C_drew ?_))); (case aB => exact (by repeat (first | (with_reducible first | exact HB.out | apply below_alloc | apply pw_below_drewN | apply below_drew1 | refine below_set ?_ GE131.out) | exact HB.out))); (case aF => exact (fun k_ hk => Kd.fresh' (Kd.R_lt (by (with_reducible repeat (first | apply Kd.R_alloc | apply Kd.R_drewN | apply Kd.R_drew)); exact HO142.out)) k_ hk)); (case aO => exact (by (with_reducible repeat (first | apply Kd.R_alloc | apply Kd.R_drewN | apply Kd.R_drew)); exact Kd.R_mono HO138.out (fun _ hk => hk.2))); (case aS => exact (below_size (by repeat (first | (with_reducible first | exact HB.out | apply below_alloc | apply pw_below_drewN | apply below_drew1 | refine below_set ?_ GE131.out) | exact HB.out)))); (case aL => have := LMc9.out; omega); intro v144 w45 ho hb hg hat; rw [← Ny143.out] at ho; have n0_ := Aside0.mk (blk_grown (g := gb131) (o := .cells #[.slice A1_0 l1_0.length c1_0, .slice A1_1 l1_1.length c1_1, .bool a1_2, .int .i64 a1_3, .bool a1_4, .int .i64 a1_5, .int .i64 a1_6, .int .i64 a1_7, .int .i64 a1_8, .int .i64 a1_9, .slice A1_10 l1_10.length c1_10, .slice A1_11 l1_11.length c1_11, .bool a1_12, .slice A1_13 l1_13.length c1_13, .bool a1_14, .int .i64 a1_15, .int .i64 a1_16, .int .i64 a1_17, .int .i64 a1_18, .int .i64 a1_19, .bool a1_20, .bool a1_21, .bool a1_22, .slice A1_23 l1_23.length c1_23, .slice A1_24 l1_24.length c1_24, .slice A1_25 l1_25.length c1_25, .slice A1_26 l1_26.length c1_26] 34 (0, 0)) (by (with_reducible repeat (first | refine blk_drewN ?_ _ | refine blk_drew ?_ | refine blk_alloc ?_ _)); exact BK131.out) hg (Kd.R_ne HO138.out BK131.out (by decide))); have n1_ := Aside0.mk (Kd.R_after (ok := (fun _ => True)) (by (with_reducible repeat (first | apply Kd.R_alloc | apply Kd.R_drewN | apply Kd.R_drew)); exact HO142.out) hg hat); have n2_ := Aside0.mk (hb); have n3_ := Aside0.mk (ho); clear BK131; clear HO142; clear HB; clear HO138; have BK131 := n0_; have HO142 := n1_; have HB := n2_; have HO145 := n3_; clear n0_ n1_ n2_ n3_; clear ho hb hg hat; have hcz47_0 : w45.cell? ⟨gb131, 0, none⟩ = some (.slice A1_0 l1_0.length c1_0) := (blk_cell BK131.out 0).trans rfl; have hcz47_1 : w45.cell? ⟨gb131, 1, none⟩ = some (.slice A1_1 l1_1.length c1_1) := (blk_cell BK131.out 1).trans rfl; have hcz47_2 : w45.cell? ⟨gb131, 2, none⟩ = some (.bool a1_2) := (blk_cell BK131.out 2).trans rfl; have hcz47_3 : w45.cell? ⟨gb131, 3, none⟩ = some (.int .i64 a1_3) := (blk_cell BK131.out 3).trans rfl; have hcz47_4 : w45.cell? ⟨gb131, 4, none⟩ = some (.bool a1_4) := (blk_cell BK131.out 4).trans rfl; have hcz47_5 : w45.cell? ⟨gb131, 5, none⟩ = some (.int .i64 a1_5) := (blk_cell BK131.out 5).trans rfl; have hcz47_6 : w45.cell? ⟨gb131, 6, none⟩ = some (.int .i64 a1_6) := (blk_cell BK131.out 6).trans rfl; have hcz47_7 : w45.cell? ⟨gb131, 7, none⟩ = some (.int .i64 a1_7) := (blk_cell BK131.out 7).trans rfl; have hcz47_8 : w45.cell? ⟨gb131, 8, none⟩ = some (.int .i64 a1_8) := (blk_cell BK131.out 8).trans rfl; have hcz47_9 : w45.cell? ⟨gb131, 9, none⟩ = some (.int .i64 a1_9) := (blk_cell BK131.out 9).trans rfl; have hcz47_10 : w45.cell? ⟨gb131, 10, none⟩ = some (.slice A1_10 l1_10.length c1_10) := (blk_cell BK131.out 10).trans rfl; have hcz47_11 : w45.cell? ⟨gb131, 11, none⟩ = some (.slice A1_11 l1_11.length c1_11) := (blk_cell BK131.out 11).trans rfl; have hcz47_12 : w45.cell? ⟨gb131, 12, none⟩ = some (.bool a1_12) := (blk_cell BK131.out 12).trans rfl; have hcz47_13 : w45.cell? ⟨gb131, 13, none⟩ = some (.slice A1_13 l1_13.length c1_13) := (blk_cell BK131.out 13).trans rfl; have hcz47_14 : w45.cell? ⟨gb131, 14, none⟩ = some (.bool a1_14) := (blk_cell BK131.out 14).trans rfl; have hcz47_15 : w45.cell? ⟨gb131, 15, none⟩ = some (.int .i64 a1_15) := (blk_cell BK131.out 15).trans rfl; have hcz47_16 : w45.cell? ⟨gb131, 16, none⟩ = some (.int .i64 a1_16) := (blk_cell BK131.out 16).trans rfl; have hcz47_17 : w45.cell? ⟨gb131, 17, none⟩ = some (.int .i64 a1_17) := (blk_cell BK131.out 17).trans rfl; have hcz47_18 : w45.cell? ⟨gb131, 18, none⟩ = some (.int .i64 a1_18) := (blk_cell BK131.out 18).trans rfl; have hcz47_19 : w45.cell? ⟨gb131, 19, none⟩ = some (.int .i64 a1_19) := (blk_cell BK131.out 19).trans rfl; have hcz47_20 : w45.cell? ⟨gb131, 20, none⟩ = some (.bool a1_20) := (blk_cell BK131.out 20).trans rfl; have hcz47_21 : w45.cell? ⟨gb131, 21, none⟩ = some (.bool a1_21) := (blk_cell BK131.out 21).trans rfl; have hcz47_22 : w45.cell? ⟨gb131, 22, none⟩ = some (.bool a1_22) := (blk_cell BK131.out 22).trans rfl; have hcz47_23 : w45.cell? ⟨gb131, 23, none⟩ = some (.slice A1_23 l1_23.length c1_23) := (blk_cell BK131.out 23).trans rfl; have hcz47_24 : w45.cell? ⟨gb131, 24, none⟩ = some (.slice A1_24 l1_24.length c1_24) := (blk_cell BK131.out 24).trans rfl; have hcz47_25 : w45.cell? ⟨gb131, 25, none⟩ = some (.slice A1_25 l1_25.length c1_25) := (blk_cell BK131.out 25).trans rfl; have hcz47_26 : w45.cell? ⟨gb131, 26, none⟩ = some (.slice A1_26 l1_26.length c1_26) := (blk_cell BK131.out 26).trans rfl; have hfz47_0 := blk_frozen BK131.out 0; have hfz47_1 := blk_frozen BK131.out 1; have hfz47_2 := blk_frozen BK131.out 2; have hfz47_3 := blk_frozen BK131.out 3; have hfz47_4 := blk_frozen BK131.out 4; have hfz47_5 := blk_frozen BK131.out 5; have hfz47_6 := blk_frozen BK131.out 6; have hfz47_7 := blk_frozen BK131.out 7; have hfz47_8 := blk_frozen BK131.out 8; have hfz47_9 := blk_frozen BK131.out 9; have hfz47_10 := blk_frozen BK131.out 10; have hfz47_11 := blk_frozen BK131.out 11; have hfz47_12 := blk_frozen BK131.out 12; have hfz47_13 := blk_frozen BK131.out 13; have hfz47_14 := blk_frozen BK131.out 14; have hfz47_15 := blk_frozen BK131.out 15; have hfz47_16 := blk_frozen BK131.out 16; have hfz47_17 := blk_frozen BK131.out 17; have hfz47_18 := blk_frozen BK131.out 18; have hfz47_19 := blk_frozen BK131.out 19; have hfz47_20 := blk_frozen BK131.out 20; have hfz47_21 := blk_frozen BK131.out 21; have hfz47_22 := blk_frozen BK131.out 22; have hfz47_23 := blk_frozen BK131.out 23; have hfz47_24 := blk_frozen BK131.out 24; have hfz47_25 := blk_frozen BK131.out 25; have hfz47_26 := blk_frozen BK131.out 26))
          have n0_ := Aside0.mk (Kd.R_drew HO142.out)
          have n1_ := Aside0.mk (Kd.R_drew HO145.out)
          have n2_ := Aside0.mk (blk_drew BK131.out)
          have n3_ := Aside0.mk (below_drew1 HB.out)
          clear HO142
          clear HO145
          clear BK131
          clear HB
          have HO142 := n0_
          have HO145 := n1_
          have BK131 := n2_
          have HB := n3_
          clear n0_ n1_ n2_ n3_
          refine start_ (n := 10) (S := fun w' => w'.cell? ⟨gb131, 0, none⟩ = some (.slice A1_0 l1_0.length c1_0) ∧ w'.cell? ⟨gb131, 1, none⟩ = some (.slice A1_1 l1_1.length c1_1) ∧ w'.cell? ⟨gb131, 2, none⟩ = some (.bool a1_2) ∧ w'.cell? ⟨gb131, 3, none⟩ = some (.int .i64 a1_3) ∧ w'.cell? ⟨gb131, 4, none⟩ = some (.bool a1_4) ∧ w'.cell? ⟨gb131, 5, none⟩ = some (.int .i64 a1_5) ∧ w'.cell? ⟨gb131, 6, none⟩ = some (.int .i64 a1_6) ∧ w'.cell? ⟨gb131, 7, none⟩ = some (.int .i64 a1_7) ∧ w'.cell? ⟨gb131, 8, none⟩ = some (.int .i64 a1_8) ∧ w'.cell? ⟨gb131, 9, none⟩ = some (.int .i64 a1_9) ∧ w'.cell? ⟨gb131, 10, none⟩ = some (.slice A1_10 l1_10.length c1_10) ∧ w'.cell? ⟨gb131, 11, none⟩ = some (.slice A1_11 l1_11.length c1_11) ∧ w'.cell? ⟨gb131, 12, none⟩ = some (.bool a1_12) ∧ w'.cell? ⟨gb131, 13, none⟩ = some (.slice A1_13 l1_13.length c1_13) ∧ w'.cell? ⟨gb131, 14, none⟩ = some (.bool a1_14) ∧ w'.cell? ⟨gb131, 15, none⟩ = some (.int .i64 a1_15) ∧ w'.cell? ⟨gb131, 16, none⟩ = some (.int .i64 a1_16) ∧ w'.cell? ⟨gb131, 17, none⟩ = some (.int .i64 a1_17) ∧ w'.cell? ⟨gb131, 18, none⟩ = some (.int .i64 a1_18) ∧ w'.cell? ⟨gb131, 19, none⟩ = some (.int .i64 a1_19) ∧ w'.cell? ⟨gb131, 20, none⟩ = some (.bool a1_20) ∧ w'.cell? ⟨gb131, 21, none⟩ = some (.bool a1_21) ∧ w'.cell? ⟨gb131, 22, none⟩ = some (.bool a1_22) ∧ w'.cell? ⟨gb131, 23, none⟩ = some (.slice A1_23 l1_23.length c1_23) ∧ w'.cell? ⟨gb131, 24, none⟩ = some (.slice A1_24 l1_24.length c1_24) ∧ w'.cell? ⟨gb131, 25, none⟩ = some (.slice A1_25 l1_25.length c1_25) ∧ w'.cell? ⟨gb131, 26, none⟩ = some (.slice A1_26 l1_26.length c1_26)) (ds := []) #[false, false, false, false, false, false, false, false, false, false] (by kernel_rfl) rfl rfl ⟨(blk_cell BK131.out 0).trans rfl, (blk_cell BK131.out 1).trans rfl, (blk_cell BK131.out 2).trans rfl, (blk_cell BK131.out 3).trans rfl, (blk_cell BK131.out 4).trans rfl, (blk_cell BK131.out 5).trans rfl, (blk_cell BK131.out 6).trans rfl, (blk_cell BK131.out 7).trans rfl, (blk_cell BK131.out 8).trans rfl, (blk_cell BK131.out 9).trans rfl, (blk_cell BK131.out 10).trans rfl, (blk_cell BK131.out 11).trans rfl, (blk_cell BK131.out 12).trans rfl, (blk_cell BK131.out 13).trans rfl, (blk_cell BK131.out 14).trans rfl, (blk_cell BK131.out 15).trans rfl, (blk_cell BK131.out 16).trans rfl, (blk_cell BK131.out 17).trans rfl, (blk_cell BK131.out 18).trans rfl, (blk_cell BK131.out 19).trans rfl, (blk_cell BK131.out 20).trans rfl, (blk_cell BK131.out 21).trans rfl, (blk_cell BK131.out 22).trans rfl, (blk_cell BK131.out 23).trans rfl, (blk_cell BK131.out 24).trans rfl, (blk_cell BK131.out 25).trans rfl, (blk_cell BK131.out 26).trans rfl⟩ (fun hHeld => ?_); refine with_tabW view_Where.tab5 view_Where.bits5 (fun HT_ HW_ => ?_)
          generalize w45.drew = w48 at HO142 HO145 BK131 HB hHeld ⊢
          refine pure_ (i := 0) (N := some 31) (v := ?_) (a' := ?_) #[true, false, false, false, false, false, false, false, false, false] rfl rfl (any_of HT_.out (by kernel_rfl)) (fun _ _ _ h => h) (Or.inl ⟨by rfl, ?_⟩) ?_ ?_
          rotate_left
          · intro w'
            go_simp
            with_reducible rfl
          rotate_left
          · simp only [Act.put, List.setIfInBounds_toArray, List.set_cons_zero, List.set_cons_succ, i64_w, i32_w]
            rfl
          refine pure_ (i := 1) (N := some 32) (v := ?_) (a' := ?_) #[true, true, false, false, false, false, false, false, false, false] rfl rfl (any_of HT_.out (by kernel_rfl)) (fun _ _ _ h => h) (Or.inl ⟨by rfl, ?_⟩) ?_ ?_
          rotate_left
          · intro w'
            go_simp
            with_reducible rfl
          rotate_left
          · simp only [Act.put, List.setIfInBounds_toArray, List.set_cons_zero, List.set_cons_succ, i64_w, i32_w]
            rfl
          refine pure_ (i := 4) (N := some 35) (v := ?_) (a' := ?_) #[true, true, false, false, true, false, false, false, false, false] rfl rfl (any_of HT_.out (by kernel_rfl)) (fun _ _ _ h => h) (Or.inl ⟨by rfl, ?_⟩) ?_ ?_
          rotate_left
          · intro w'
            go_simp
            with_reducible rfl
          rotate_left
          · simp only [Act.put, List.setIfInBounds_toArray, List.set_cons_zero, List.set_cons_succ, i64_w, i32_w]
            rfl
          refine take_ (i := 2) (N := some 33) (v := ?_) (a' := ?_) #[true, true, true, false, true, false, false, false, false, false] rfl rfl (take_ofW HT_.out HW_.out (by kernel_rfl)) (fun _ _ _ h => h) (Or.inl ⟨by rfl, ?_⟩) hHeld ?_ ?_
          rotate_left
          · rintro w' ⟨s0, s1, s2, s3, s4, s5, s6, s7, s8, s9, s10, s11, s12, s13, s14, s15, s16, s17, s18, s19, s20, s21, s22, s23, s24, s25, s26⟩
            go_simp
            with_reducible rfl
          rotate_left
          · simp only [Act.put, List.setIfInBounds_toArray, List.set_cons_zero, List.set_cons_succ, i64_w, i32_w]
            rfl
          refine take_ (i := 5) (N := some 36) (v := ?_) (a' := ?_) #[true, true, true, false, true, true, false, false, false, false] rfl rfl (take_ofW HT_.out HW_.out (by kernel_rfl)) (fun _ _ _ h => h) (Or.inl ⟨by rfl, ?_⟩) hHeld ?_ ?_
          rotate_left
          · rintro w' ⟨s0, s1, s2, s3, s4, s5, s6, s7, s8, s9, s10, s11, s12, s13, s14, s15, s16, s17, s18, s19, s20, s21, s22, s23, s24, s25, s26⟩
            go_simp
            with_reducible rfl
          rotate_left
          · simp only [Act.put, List.setIfInBounds_toArray, List.set_cons_zero, List.set_cons_succ, i64_w, i32_w]
            rfl
          refine one_ (i := 3) (N := some 34) #[true, true, true, true, true, true, false, false, false, false] rfl rfl (one_of HT_.out (by kernel_rfl)) (by decide) (fun K hK => ?_)
          refine goes_ Tryd.func13 (by kernel_rfl) rfl #[.int .i64 a1_19] (by rfl) rfl rfl (by (try simp only [List.map_toArray, List.map_cons, List.map_nil]); first | done | rfl | (simp only [List.length_drop, List.length_take]; rfl)) ?_
          with_reducible refine (digit_Text.calls a1_19 t147 _ (TW0_.out.below (by repeat (first | (with_reducible first | exact HB.out | apply below_alloc | apply pw_below_drewN | apply below_drew1 | refine below_set ?_ GE131.out) | exact HB.out))) A29.out).mono ?_
          rintro e w49 ⟨rfl, hb⟩
          refine ⟨_, rfl, ?_⟩
          have n0_ := Aside0.mk (Kd.R_below (by (with_reducible repeat (first | apply Kd.R_alloc | apply Kd.R_drewN | apply Kd.R_drew)); exact HO142.out) hb)
          have n1_ := Aside0.mk (Kd.R_below (by (with_reducible repeat (first | apply Kd.R_alloc | apply Kd.R_drewN | apply Kd.R_drew)); exact HO145.out) hb)
          have n2_ := Aside0.mk (blk_below (g := gb131) (o := .cells #[.slice A1_0 l1_0.length c1_0, .slice A1_1 l1_1.length c1_1, .bool a1_2, .int .i64 a1_3, .bool a1_4, .int .i64 a1_5, .int .i64 a1_6, .int .i64 a1_7, .int .i64 a1_8, .int .i64 a1_9, .slice A1_10 l1_10.length c1_10, .slice A1_11 l1_11.length c1_11, .bool a1_12, .slice A1_13 l1_13.length c1_13, .bool a1_14, .int .i64 a1_15, .int .i64 a1_16, .int .i64 a1_17, .int .i64 a1_18, .int .i64 a1_19, .bool a1_20, .bool a1_21, .bool a1_22, .slice A1_23 l1_23.length c1_23, .slice A1_24 l1_24.length c1_24, .slice A1_25 l1_25.length c1_25, .slice A1_26 l1_26.length c1_26] 34 (0, 0)) (by (with_reducible repeat (first | refine blk_drewN ?_ _ | refine blk_drew ?_ | refine blk_alloc ?_ _)); exact BK131.out) hb)
          have n3_ := Aside0.mk (below_step (by repeat (first | (with_reducible first | exact HB.out | apply below_alloc | apply pw_below_drewN | apply below_drew1 | refine below_set ?_ GE131.out) | exact HB.out)) hb)
          clear HO142
          clear HO145
          clear BK131
          clear HB
          have HO142 := n0_
          have HO145 := n1_
          have BK131 := n2_
          have HB := n3_
          clear n0_ n1_ n2_ n3_
          (try clear hb)
          (try clear hb2)
          (try clear hk)
          (try clear hi)
          refine hK.out _ _ ⟨(blk_cell BK131.out 0).trans rfl, (blk_cell BK131.out 1).trans rfl, (blk_cell BK131.out 2).trans rfl, (blk_cell BK131.out 3).trans rfl, (blk_cell BK131.out 4).trans rfl, (blk_cell BK131.out 5).trans rfl, (blk_cell BK131.out 6).trans rfl, (blk_cell BK131.out 7).trans rfl, (blk_cell BK131.out 8).trans rfl, (blk_cell BK131.out 9).trans rfl, (blk_cell BK131.out 10).trans rfl, (blk_cell BK131.out 11).trans rfl, (blk_cell BK131.out 12).trans rfl, (blk_cell BK131.out 13).trans rfl, (blk_cell BK131.out 14).trans rfl, (blk_cell BK131.out 15).trans rfl, (blk_cell BK131.out 16).trans rfl, (blk_cell BK131.out 17).trans rfl, (blk_cell BK131.out 18).trans rfl, (blk_cell BK131.out 19).trans rfl, (blk_cell BK131.out 20).trans rfl, (blk_cell BK131.out 21).trans rfl, (blk_cell BK131.out 22).trans rfl, (blk_cell BK131.out 23).trans rfl, (blk_cell BK131.out 24).trans rfl, (blk_cell BK131.out 25).trans rfl, (blk_cell BK131.out 26).trans rfl⟩ (fun hHeld => ?_)
          clear hK K
          refine norm_ (a' := ?_) ?_ ?_
          rotate_left
          · show Act.put _ (some 34) _ = _
            simp only [Act.put, List.setIfInBounds_toArray, List.set_cons_zero, List.set_cons_succ, i64_w, i32_w]
            rfl
          refine one_ (i := 6) (N := some 37) #[true, true, true, true, true, true, true, false, false, false] rfl rfl (one_of HT_.out (by kernel_rfl)) (by decide) (fun K hK => ?_)
          refine goes_ Tryd.func13 (by kernel_rfl) rfl #[.int .i64 a1_18] (by rfl) rfl rfl (by (try simp only [List.map_toArray, List.map_cons, List.map_nil]); first | done | rfl | (simp only [List.length_drop, List.length_take]; rfl)) ?_
          with_reducible refine (digit_Text.calls a1_18 t148 _ (TW0_.out.below (by repeat (first | (with_reducible first | exact HB.out | apply below_alloc | apply pw_below_drewN | apply below_drew1 | refine below_set ?_ GE131.out) | exact HB.out))) A30.out).mono ?_
          rintro e w50 ⟨rfl, hb⟩
          refine ⟨_, rfl, ?_⟩
          have n0_ := Aside0.mk (Kd.R_below (by (with_reducible repeat (first | apply Kd.R_alloc | apply Kd.R_drewN | apply Kd.R_drew)); exact HO142.out) hb)
          have n1_ := Aside0.mk (Kd.R_below (by (with_reducible repeat (first | apply Kd.R_alloc | apply Kd.R_drewN | apply Kd.R_drew)); exact HO145.out) hb)
          have n2_ := Aside0.mk (blk_below (g := gb131) (o := .cells #[.slice A1_0 l1_0.length c1_0, .slice A1_1 l1_1.length c1_1, .bool a1_2, .int .i64 a1_3, .bool a1_4, .int .i64 a1_5, .int .i64 a1_6, .int .i64 a1_7, .int .i64 a1_8, .int .i64 a1_9, .slice A1_10 l1_10.length c1_10, .slice A1_11 l1_11.length c1_11, .bool a1_12, .slice A1_13 l1_13.length c1_13, .bool a1_14, .int .i64 a1_15, .int .i64 a1_16, .int .i64 a1_17, .int .i64 a1_18, .int .i64 a1_19, .bool a1_20, .bool a1_21, .bool a1_22, .slice A1_23 l1_23.length c1_23, .slice A1_24 l1_24.length c1_24, .slice A1_25 l1_25.length c1_25, .slice A1_26 l1_26.length c1_26] 34 (0, 0)) (by (with_reducible repeat (first | refine blk_drewN ?_ _ | refine blk_drew ?_ | refine blk_alloc ?_ _)); exact BK131.out) hb)
          have n3_ := Aside0.mk (below_step (by repeat (first | (with_reducible first | exact HB.out | apply below_alloc | apply pw_below_drewN | apply below_drew1 | refine below_set ?_ GE131.out) | exact HB.out)) hb)
          clear HO142
          clear HO145
          clear BK131
          clear HB
          have HO142 := n0_
          have HO145 := n1_
          have BK131 := n2_
          have HB := n3_
          clear n0_ n1_ n2_ n3_
          (try clear hb)
          (try clear hb2)
          (try clear hk)
          (try clear hi)
          refine hK.out _ _ ⟨(blk_cell BK131.out 0).trans rfl, (blk_cell BK131.out 1).trans rfl, (blk_cell BK131.out 2).trans rfl, (blk_cell BK131.out 3).trans rfl, (blk_cell BK131.out 4).trans rfl, (blk_cell BK131.out 5).trans rfl, (blk_cell BK131.out 6).trans rfl, (blk_cell BK131.out 7).trans rfl, (blk_cell BK131.out 8).trans rfl, (blk_cell BK131.out 9).trans rfl, (blk_cell BK131.out 10).trans rfl, (blk_cell BK131.out 11).trans rfl, (blk_cell BK131.out 12).trans rfl, (blk_cell BK131.out 13).trans rfl, (blk_cell BK131.out 14).trans rfl, (blk_cell BK131.out 15).trans rfl, (blk_cell BK131.out 16).trans rfl, (blk_cell BK131.out 17).trans rfl, (blk_cell BK131.out 18).trans rfl, (blk_cell BK131.out 19).trans rfl, (blk_cell BK131.out 20).trans rfl, (blk_cell BK131.out 21).trans rfl, (blk_cell BK131.out 22).trans rfl, (blk_cell BK131.out 23).trans rfl, (blk_cell BK131.out 24).trans rfl, (blk_cell BK131.out 25).trans rfl, (blk_cell BK131.out 26).trans rfl⟩ (fun hHeld => ?_)
          clear hK K
          refine norm_ (a' := ?_) ?_ ?_
          rotate_left
          · show Act.put _ (some 37) _ = _
            simp only [Act.put, List.setIfInBounds_toArray, List.set_cons_zero, List.set_cons_succ, i64_w, i32_w]
            rfl
          refine one_ (i := 7) (N := some 38) #[true, true, true, true, true, true, true, true, false, false] rfl rfl (one_of HT_.out (by kernel_rfl)) (by decide) (fun K hK => ?_)
          refine Kd.R_lit_step Kd.string _ 9 ?hg (N := 38) ?hd (xs := ([(⟨#[101, 114, 114, 111, 114]⟩ : ByteArray), t147, (⟨#[97, 116]⟩ : ByteArray), t148] : List ByteArray)) (inner := [.string (⟨#[101, 114, 114, 111, 114]⟩ : ByteArray), .string t147, .string (⟨#[97, 116]⟩ : ByteArray), .string t148]) (ok := fun _ => True) (okp := fun _ => True) ?hr ?hp (fun _ hk => hk) trivial (Below.refl _ _) (Nat.le_refl _) (by simp) ?_; (case hd => rfl); (case hg => rfl); (case hr => first | (go_simp; done) | (go_simp; rfl)); (case hp => exact (Reps.one (show Kd.M Kd.string _ _ _ (⟨#[101, 114, 114, 111, 114]⟩ : ByteArray) [.string (⟨#[101, 114, 114, 111, 114]⟩ : ByteArray)] from rfl) (Reps.one (show Kd.M Kd.string _ _ _ t147 [.string t147] from rfl) (Reps.one (show Kd.M Kd.string _ _ _ (⟨#[97, 116]⟩ : ByteArray) [.string (⟨#[97, 116]⟩ : ByteArray)] from rfl) (Reps.one (show Kd.M Kd.string _ _ _ t148 [.string t148] from rfl) (Reps.none _ _))))))
          intro v150 w51 ho52 hb hg_ hnew_
          clear hg_ hnew_
          (first | rw [← Ny149.out] at ho52 | (simp only [Int.reduceToNat] at ho52; rw [← Ny149.out] at ho52))
          have n0_ := Aside0.mk (Kd.R_elder' (by (with_reducible repeat (first | apply Kd.R_alloc | apply Kd.R_drewN | apply Kd.R_drew)); exact HO142.out) (Kd.R_base ho52) hb)
          have n1_ := Aside0.mk (Kd.R_elder' (by (with_reducible repeat (first | apply Kd.R_alloc | apply Kd.R_drewN | apply Kd.R_drew)); exact HO145.out) (Kd.R_base ho52) hb)
          have n2_ := Aside0.mk (Kd.R_lower (Kd.R_new' (Kd.R_new' ho52 (Kd.R_lt (by (with_reducible repeat (first | apply Kd.R_alloc | apply Kd.R_drewN | apply Kd.R_drew)); exact HO142.out))) (Kd.R_lt (by (with_reducible repeat (first | apply Kd.R_alloc | apply Kd.R_drewN | apply Kd.R_drew)); exact HO145.out))) (below_size (by repeat (first | (with_reducible first | exact HB.out | apply below_alloc | apply pw_below_drewN | apply below_drew1 | refine below_set ?_ GE131.out) | exact HB.out))))
          have n3_ := Aside0.mk (blk_below (g := gb131) (o := .cells #[.slice A1_0 l1_0.length c1_0, .slice A1_1 l1_1.length c1_1, .bool a1_2, .int .i64 a1_3, .bool a1_4, .int .i64 a1_5, .int .i64 a1_6, .int .i64 a1_7, .int .i64 a1_8, .int .i64 a1_9, .slice A1_10 l1_10.length c1_10, .slice A1_11 l1_11.length c1_11, .bool a1_12, .slice A1_13 l1_13.length c1_13, .bool a1_14, .int .i64 a1_15, .int .i64 a1_16, .int .i64 a1_17, .int .i64 a1_18, .int .i64 a1_19, .bool a1_20, .bool a1_21, .bool a1_22, .slice A1_23 l1_23.length c1_23, .slice A1_24 l1_24.length c1_24, .slice A1_25 l1_25.length c1_25, .slice A1_26 l1_26.length c1_26] 34 (0, 0)) (by (with_reducible repeat (first | refine blk_drewN ?_ _ | refine blk_drew ?_ | refine blk_alloc ?_ _)); exact BK131.out) hb)
          have n4_ := Aside0.mk (below_step (by repeat (first | (with_reducible first | exact HB.out | apply below_alloc | apply pw_below_drewN | apply below_drew1 | refine below_set ?_ GE131.out) | exact HB.out)) hb)
          clear HO142
          clear HO145
          clear BK131
          clear HB
          have HO142 := n0_
          have HO145 := n1_
          have HO151 := n2_
          have BK131 := n3_
          have HB := n4_
          clear n0_ n1_ n2_ n3_ n4_
          clear hb ho52
          obtain ⟨Ao54, co54, eo54⟩ := Kd.R_slice HO151.out
          (first | subst eo54 | (injection eo54 with f1_ f2_ f3_; have f4_ := f1_.symm; have f5_ := f3_.symm; clear f1_ f2_ f3_; subst f4_; subst f5_))
          refine hK.out _ _ ⟨(blk_cell BK131.out 0).trans rfl, (blk_cell BK131.out 1).trans rfl, (blk_cell BK131.out 2).trans rfl, (blk_cell BK131.out 3).trans rfl, (blk_cell BK131.out 4).trans rfl, (blk_cell BK131.out 5).trans rfl, (blk_cell BK131.out 6).trans rfl, (blk_cell BK131.out 7).trans rfl, (blk_cell BK131.out 8).trans rfl, (blk_cell BK131.out 9).trans rfl, (blk_cell BK131.out 10).trans rfl, (blk_cell BK131.out 11).trans rfl, (blk_cell BK131.out 12).trans rfl, (blk_cell BK131.out 13).trans rfl, (blk_cell BK131.out 14).trans rfl, (blk_cell BK131.out 15).trans rfl, (blk_cell BK131.out 16).trans rfl, (blk_cell BK131.out 17).trans rfl, (blk_cell BK131.out 18).trans rfl, (blk_cell BK131.out 19).trans rfl, (blk_cell BK131.out 20).trans rfl, (blk_cell BK131.out 21).trans rfl, (blk_cell BK131.out 22).trans rfl, (blk_cell BK131.out 23).trans rfl, (blk_cell BK131.out 24).trans rfl, (blk_cell BK131.out 25).trans rfl, (blk_cell BK131.out 26).trans rfl⟩ (fun hHeld => ?_)
          clear hK K
          refine norm_ (a' := ?_) ?_ ?_
          rotate_left
          · show Act.put _ (some 38) _ = _
            simp only [Act.put, List.setIfInBounds_toArray, List.set_cons_zero, List.set_cons_succ, i64_w, i32_w]
            rfl
          refine one_ (i := 8) (N := some 39) #[true, true, true, true, true, true, true, true, true, false] rfl rfl (one_of HT_.out (by kernel_rfl)) (by decide) (fun K hK => ?_)
          refine Kd.R_append_rows_step Kd.string (w0 := w) w.heap.size (by rfl) (.tmp 31) (.tmp 38) 38 9 (.string ⟨#[]⟩) 16 rfl Tryd.underlying38 info9 rfl (by decide) (by omega) v144 y143 y149 _ _ _ (fun k_ => some k_ ≠ (.slice Ao46 y140.length co46 : Value).ownBlock ∧ some k_ ≠ (.slice Ao54 y149.length co54 : Value).ownBlock) (fun _ => False) rfl rfl ?aO ?aR (fun _ _ h => h) (fun _ h => h.elim) ?aF ?aB ?aS ?aL ?_
          (case aR => repeat (first | exact (Kd.R_reads' HO151.out).2.2 | (with_reducible refine Kd.C_alloc ?_ _) | (with_reducible refine Kd.C_drewN ?_ _) | (with_reducible refine Kd.C_drew ?_)))
          (case aB => exact (by repeat (first | (with_reducible first | exact HB.out | apply below_alloc | apply pw_below_drewN | apply below_drew1 | refine below_set ?_ GE131.out) | exact HB.out)))
          (case aF => exact (fun k_ hk => ⟨Kd.fresh' (Kd.R_lt (by (with_reducible repeat (first | apply Kd.R_alloc | apply Kd.R_drewN | apply Kd.R_drew)); exact HO142.out)) k_ hk, Kd.fresh' (Kd.R_lt (by (with_reducible repeat (first | apply Kd.R_alloc | apply Kd.R_drewN | apply Kd.R_drew)); exact HO151.out)) k_ hk⟩))
          (case aO => exact (by (with_reducible repeat (first | apply Kd.R_alloc | apply Kd.R_drewN | apply Kd.R_drew)); exact HO145.out))
          (case aS => exact (below_size (by repeat (first | (with_reducible first | exact HB.out | apply below_alloc | apply pw_below_drewN | apply below_drew1 | refine below_set ?_ GE131.out) | exact HB.out))))
          (case aL => have := LMc31.out; omega)
          intro v153 w53 ho hb hg hat
          rw [← Ny152.out] at ho
          have n0_ := Aside0.mk (blk_grown (g := gb131) (o := .cells #[.slice A1_0 l1_0.length c1_0, .slice A1_1 l1_1.length c1_1, .bool a1_2, .int .i64 a1_3, .bool a1_4, .int .i64 a1_5, .int .i64 a1_6, .int .i64 a1_7, .int .i64 a1_8, .int .i64 a1_9, .slice A1_10 l1_10.length c1_10, .slice A1_11 l1_11.length c1_11, .bool a1_12, .slice A1_13 l1_13.length c1_13, .bool a1_14, .int .i64 a1_15, .int .i64 a1_16, .int .i64 a1_17, .int .i64 a1_18, .int .i64 a1_19, .bool a1_20, .bool a1_21, .bool a1_22, .slice A1_23 l1_23.length c1_23, .slice A1_24 l1_24.length c1_24, .slice A1_25 l1_25.length c1_25, .slice A1_26 l1_26.length c1_26] 34 (0, 0)) (by (with_reducible repeat (first | refine blk_drewN ?_ _ | refine blk_drew ?_ | refine blk_alloc ?_ _)); exact BK131.out) hg (Kd.R_ne HO145.out BK131.out (by decide)))
          have n1_ := Aside0.mk (Kd.R_after (ok := (fun k_ => some k_ ≠ (.slice Ao54 y149.length co54 : Value).ownBlock)) (by (with_reducible repeat (first | apply Kd.R_alloc | apply Kd.R_drewN | apply Kd.R_drew)); exact Kd.R_mono HO142.out (fun _ hk => ⟨hk.2, hk.1.2⟩)) hg hat)
          have n2_ := Aside0.mk (Kd.R_after (ok := (fun k_ => some k_ ≠ (.slice Ao46 y140.length co46 : Value).ownBlock)) (by (with_reducible repeat (first | apply Kd.R_alloc | apply Kd.R_drewN | apply Kd.R_drew)); exact Kd.R_mono HO151.out (fun _ hk => ⟨hk.1.2, hk.2⟩)) hg hat)
          have n3_ := Aside0.mk (hb)
          have n4_ := Aside0.mk (ho)
          clear BK131
          clear HO142
          clear HO151
          clear HB
          clear HO145
          have BK131 := n0_
          have HO142 := n1_
          have HO151 := n2_
          have HB := n3_
          have HO154 := n4_
          clear n0_ n1_ n2_ n3_ n4_
          clear ho hb hg hat
          refine hK.out _ _ ⟨(blk_cell BK131.out 0).trans rfl, (blk_cell BK131.out 1).trans rfl, (blk_cell BK131.out 2).trans rfl, (blk_cell BK131.out 3).trans rfl, (blk_cell BK131.out 4).trans rfl, (blk_cell BK131.out 5).trans rfl, (blk_cell BK131.out 6).trans rfl, (blk_cell BK131.out 7).trans rfl, (blk_cell BK131.out 8).trans rfl, (blk_cell BK131.out 9).trans rfl, (blk_cell BK131.out 10).trans rfl, (blk_cell BK131.out 11).trans rfl, (blk_cell BK131.out 12).trans rfl, (blk_cell BK131.out 13).trans rfl, (blk_cell BK131.out 14).trans rfl, (blk_cell BK131.out 15).trans rfl, (blk_cell BK131.out 16).trans rfl, (blk_cell BK131.out 17).trans rfl, (blk_cell BK131.out 18).trans rfl, (blk_cell BK131.out 19).trans rfl, (blk_cell BK131.out 20).trans rfl, (blk_cell BK131.out 21).trans rfl, (blk_cell BK131.out 22).trans rfl, (blk_cell BK131.out 23).trans rfl, (blk_cell BK131.out 24).trans rfl, (blk_cell BK131.out 25).trans rfl, (blk_cell BK131.out 26).trans rfl⟩ (fun hHeld => ?_)
          clear hK K
          refine norm_ (a' := ?_) ?_ ?_
          rotate_left
          · show Act.put _ (some 39) _ = _
            simp only [Act.put, List.setIfInBounds_toArray, List.set_cons_zero, List.set_cons_succ, i64_w, i32_w]
            rfl
          refine pure_ (i := 9) (N := some 5) (v := ?_) (a' := ?_) #[true, true, true, true, true, true, true, true, true, true] rfl rfl (any_of HT_.out (by kernel_rfl)) (fun _ _ _ h => h) (Or.inl ⟨by rfl, ?_⟩) ?_ ?_
          rotate_left
          · intro w'
            go_simp
            with_reducible rfl
          rotate_left
          · simp only [Act.put, List.setIfInBounds_toArray, List.set_cons_zero, List.set_cons_succ, i64_w, i32_w]
            rfl
          refine done_ (done_of HT_.out (by kernel_rfl)) ?_
          obtain ⟨Ao55, co55, eo55⟩ := Kd.R_slice HO154.out
          subst eo55
          try go_wp2_with (first | ((with_reducible refine gate_callee (f := 15) rfl ?_); refine goesL_ (some 41) rfl rfl Tryd.func15 (by kernel_rfl) rfl #[.slice Ao55 y152.length co55] rfl (by (try simp only [List.map_toArray, List.map_cons, List.map_nil]); first | done | rfl | (simp only [List.length_drop, List.length_take]; rfl)) ?_; (with_reducible refine (show_Row.calls _ _ y152 t155 _ ?side1 ?side2 A32.out).mono ?_); (case side1 => repeat (first | exact (Kd.R_reads' HO154.out).2.2 | (with_reducible refine Kd.C_alloc ?_ _) | (with_reducible refine Kd.C_drewN ?_ _) | (with_reducible refine Kd.C_drew ?_))); (case side2 => exact (Kd.R_reads' HO154.out).2.1); rintro e w56 ⟨rfl, hb⟩; refine ⟨_, rfl, ?_⟩; have n0_ := Aside0.mk (Kd.R_below (by (with_reducible repeat (first | apply Kd.R_alloc | apply Kd.R_drewN | apply Kd.R_drew)); exact HO142.out) hb); have n1_ := Aside0.mk (Kd.R_below (by (with_reducible repeat (first | apply Kd.R_alloc | apply Kd.R_drewN | apply Kd.R_drew)); exact HO151.out) hb); have n2_ := Aside0.mk (Kd.R_below (by (with_reducible repeat (first | apply Kd.R_alloc | apply Kd.R_drewN | apply Kd.R_drew)); exact HO154.out) hb); have n3_ := Aside0.mk (blk_below (g := gb131) (o := .cells #[.slice A1_0 l1_0.length c1_0, .slice A1_1 l1_1.length c1_1, .bool a1_2, .int .i64 a1_3, .bool a1_4, .int .i64 a1_5, .int .i64 a1_6, .int .i64 a1_7, .int .i64 a1_8, .int .i64 a1_9, .slice A1_10 l1_10.length c1_10, .slice A1_11 l1_11.length c1_11, .bool a1_12, .slice A1_13 l1_13.length c1_13, .bool a1_14, .int .i64 a1_15, .int .i64 a1_16, .int .i64 a1_17, .int .i64 a1_18, .int .i64 a1_19, .bool a1_20, .bool a1_21, .bool a1_22, .slice A1_23 l1_23.length c1_23, .slice A1_24 l1_24.length c1_24, .slice A1_25 l1_25.length c1_25, .slice A1_26 l1_26.length c1_26] 34 (0, 0)) (by (with_reducible repeat (first | refine blk_drewN ?_ _ | refine blk_drew ?_ | refine blk_alloc ?_ _)); exact BK131.out) hb); have n4_ := Aside0.mk (below_step (by repeat (first | (with_reducible first | exact HB.out | apply below_alloc | apply pw_below_drewN | apply below_drew1 | refine below_set ?_ GE131.out) | exact HB.out)) hb); clear HO142; clear HO151; clear HO154; clear BK131; clear HB; have HO142 := n0_; have HO151 := n1_; have HO154 := n2_; have BK131 := n3_; have HB := n4_; clear n0_ n1_ n2_ n3_ n4_; (try clear hb); (try clear hb2); (try clear hk); (try clear hi)))
          go_ret
          exact ⟨by first | rfl | (simp [errW_none, errW_some] <;> rfl) | (simp [*, errW_none, errW_some] <;> rfl), by repeat (first | (with_reducible first | exact HB.out | apply below_alloc | apply pw_below_drewN | apply below_drew1 | refine below_set ?_ GE131.out) | exact HB.out)⟩
        · rw [if_neg c31] at H
          exact absurd H (by simp)
    · rw [if_neg c9] at H
      exact absurd H (by simp)
  · rw [if_neg c7] at H
    have c7b0 : (a1_15 == 3) = false := beq_eq_false_iff_ne.mpr c7
    have c7b1 : (a1_15 != 3) = true := bne_iff_ne.mpr c7
    replace H := Option.bind_eq_some_iff.mp H
    obtain ⟨t156, A570, H⟩ := H
    replace H : (some t156) = some r := H
    have A57 := Aside0.mk A570
    clear A570
    obtain rfl := Option.some.inj H
    go_enter Tryd.func6, Tryd.ntmps6
    try go_wp2_with (first | ((with_reducible refine gate_dst (N := 3) rfl ?_); refine box_event ?hg (N := 3) ?hd (cs := #[.slice A1_0 l1_0.length c1_0, .slice A1_1 l1_1.length c1_1, .bool a1_2, .int .i64 a1_3, .bool a1_4, .int .i64 a1_5, .int .i64 a1_6, .int .i64 a1_7, .int .i64 a1_8, .int .i64 a1_9, .slice A1_10 l1_10.length c1_10, .slice A1_11 l1_11.length c1_11, .bool a1_12, .slice A1_13 l1_13.length c1_13, .bool a1_14, .int .i64 a1_15, .int .i64 a1_16, .int .i64 a1_17, .int .i64 a1_18, .int .i64 a1_19, .bool a1_20, .bool a1_21, .bool a1_22, .slice A1_23 l1_23.length c1_23, .slice A1_24 l1_24.length c1_24, .slice A1_25 l1_25.length c1_25, .slice A1_26 l1_26.length c1_26]) (t := 34) ?hr ?_; (case hd => rfl); (case hg => rfl); (case hr => first | (go_simp; done) | (go_simp; rfl)); intro gb131 hg w58 hbox hb; have n0_ := Aside0.mk (below_step (by repeat (first | (with_reducible first | exact HB.out | apply below_alloc | apply pw_below_drewN | apply below_drew1) | exact HB.out)) hb); have n1_ := Aside0.mk (hbox); have n2_ := Aside0.mk ((by rw [hg]; exact (below_size (by repeat (first | (with_reducible first | exact HB.out | apply below_alloc | apply pw_below_drewN | apply below_drew1) | exact HB.out))) : w.heap.size ≤ gb131)); have n3_ := Aside0.mk ((by rw [hg]; exact (below_size (by repeat (first | (with_reducible first | exact HB.out | apply below_alloc | apply pw_below_drewN | apply below_drew1) | exact HB.out))) : w.heap.size ≤ gb131)); clear HB; have HB := n0_; have BK131 := n1_; have GW131 := n2_; have GE131 := n3_; clear n0_ n1_ n2_ n3_; clear hb hbox hg))
    have n0_ := Aside0.mk (blk_drew BK131.out)
    have n1_ := Aside0.mk (below_drew1 HB.out)
    clear BK131
    clear HB
    have BK131 := n0_
    have HB := n1_
    clear n0_ n1_
    refine start_ (n := 14) (S := fun w' => w'.cell? ⟨gb131, 0, none⟩ = some (.slice A1_0 l1_0.length c1_0) ∧ w'.cell? ⟨gb131, 1, none⟩ = some (.slice A1_1 l1_1.length c1_1) ∧ w'.cell? ⟨gb131, 2, none⟩ = some (.bool a1_2) ∧ w'.cell? ⟨gb131, 3, none⟩ = some (.int .i64 a1_3) ∧ w'.cell? ⟨gb131, 4, none⟩ = some (.bool a1_4) ∧ w'.cell? ⟨gb131, 5, none⟩ = some (.int .i64 a1_5) ∧ w'.cell? ⟨gb131, 6, none⟩ = some (.int .i64 a1_6) ∧ w'.cell? ⟨gb131, 7, none⟩ = some (.int .i64 a1_7) ∧ w'.cell? ⟨gb131, 8, none⟩ = some (.int .i64 a1_8) ∧ w'.cell? ⟨gb131, 9, none⟩ = some (.int .i64 a1_9) ∧ w'.cell? ⟨gb131, 10, none⟩ = some (.slice A1_10 l1_10.length c1_10) ∧ w'.cell? ⟨gb131, 11, none⟩ = some (.slice A1_11 l1_11.length c1_11) ∧ w'.cell? ⟨gb131, 12, none⟩ = some (.bool a1_12) ∧ w'.cell? ⟨gb131, 13, none⟩ = some (.slice A1_13 l1_13.length c1_13) ∧ w'.cell? ⟨gb131, 14, none⟩ = some (.bool a1_14) ∧ w'.cell? ⟨gb131, 15, none⟩ = some (.int .i64 a1_15) ∧ w'.cell? ⟨gb131, 16, none⟩ = some (.int .i64 a1_16) ∧ w'.cell? ⟨gb131, 17, none⟩ = some (.int .i64 a1_17) ∧ w'.cell? ⟨gb131, 18, none⟩ = some (.int .i64 a1_18) ∧ w'.cell? ⟨gb131, 19, none⟩ = some (.int .i64 a1_19) ∧ w'.cell? ⟨gb131, 20, none⟩ = some (.bool a1_20) ∧ w'.cell? ⟨gb131, 21, none⟩ = some (.bool a1_21) ∧ w'.cell? ⟨gb131, 22, none⟩ = some (.bool a1_22) ∧ w'.cell? ⟨gb131, 23, none⟩ = some (.slice A1_23 l1_23.length c1_23) ∧ w'.cell? ⟨gb131, 24, none⟩ = some (.slice A1_24 l1_24.length c1_24) ∧ w'.cell? ⟨gb131, 25, none⟩ = some (.slice A1_25 l1_25.length c1_25) ∧ w'.cell? ⟨gb131, 26, none⟩ = some (.slice A1_26 l1_26.length c1_26)) (ds := []) #[false, false, false, false, false, false, false, false, false, false, false, false, false, false] (by kernel_rfl) rfl rfl ⟨(blk_cell BK131.out 0).trans rfl, (blk_cell BK131.out 1).trans rfl, (blk_cell BK131.out 2).trans rfl, (blk_cell BK131.out 3).trans rfl, (blk_cell BK131.out 4).trans rfl, (blk_cell BK131.out 5).trans rfl, (blk_cell BK131.out 6).trans rfl, (blk_cell BK131.out 7).trans rfl, (blk_cell BK131.out 8).trans rfl, (blk_cell BK131.out 9).trans rfl, (blk_cell BK131.out 10).trans rfl, (blk_cell BK131.out 11).trans rfl, (blk_cell BK131.out 12).trans rfl, (blk_cell BK131.out 13).trans rfl, (blk_cell BK131.out 14).trans rfl, (blk_cell BK131.out 15).trans rfl, (blk_cell BK131.out 16).trans rfl, (blk_cell BK131.out 17).trans rfl, (blk_cell BK131.out 18).trans rfl, (blk_cell BK131.out 19).trans rfl, (blk_cell BK131.out 20).trans rfl, (blk_cell BK131.out 21).trans rfl, (blk_cell BK131.out 22).trans rfl, (blk_cell BK131.out 23).trans rfl, (blk_cell BK131.out 24).trans rfl, (blk_cell BK131.out 25).trans rfl, (blk_cell BK131.out 26).trans rfl⟩ (fun hHeld => ?_); refine with_tabW view_Where.tab1 view_Where.bits1 (fun HT_ HW_ => ?_)
    generalize w58.drew = w59 at BK131 HB hHeld ⊢
    refine pure_ (i := 0) (N := some 6) (v := ?_) (a' := ?_) #[true, false, false, false, false, false, false, false, false, false, false, false, false, false] rfl rfl (any_of HT_.out (by kernel_rfl)) (fun _ _ _ h => h) (Or.inl ⟨by rfl, ?_⟩) ?_ ?_
    rotate_left
    · intro w'
      go_simp
      with_reducible rfl
    rotate_left
    · simp only [Act.put, List.setIfInBounds_toArray, List.set_cons_zero, List.set_cons_succ, i64_w, i32_w]
      rfl
    refine pure_ (i := 2) (N := some 8) (v := ?_) (a' := ?_) #[true, false, true, false, false, false, false, false, false, false, false, false, false, false] rfl rfl (any_of HT_.out (by kernel_rfl)) (fun _ _ _ h => h) (Or.inl ⟨by rfl, ?_⟩) ?_ ?_
    rotate_left
    · intro w'
      go_simp
      with_reducible rfl
    rotate_left
    · simp only [Act.put, List.setIfInBounds_toArray, List.set_cons_zero, List.set_cons_succ, i64_w, i32_w]
      rfl
    refine pure_ (i := 3) (N := some 9) (v := ?_) (a' := ?_) #[true, false, true, true, false, false, false, false, false, false, false, false, false, false] rfl rfl (any_of HT_.out (by kernel_rfl)) (fun _ _ _ h => h) (Or.inl ⟨by rfl, ?_⟩) ?_ ?_
    rotate_left
    · intro w'
      go_simp
      with_reducible rfl
    rotate_left
    · simp only [Act.put, List.setIfInBounds_toArray, List.set_cons_zero, List.set_cons_succ, i64_w, i32_w]
      rfl
    refine pure_ (i := 6) (N := some 12) (v := ?_) (a' := ?_) #[true, false, true, true, false, false, true, false, false, false, false, false, false, false] rfl rfl (any_of HT_.out (by kernel_rfl)) (fun _ _ _ h => h) (Or.inl ⟨by rfl, ?_⟩) ?_ ?_
    rotate_left
    · intro w'
      go_simp
      with_reducible rfl
    rotate_left
    · simp only [Act.put, List.setIfInBounds_toArray, List.set_cons_zero, List.set_cons_succ, i64_w, i32_w]
      rfl
    refine pure_ (i := 9) (N := some 15) (v := ?_) (a' := ?_) #[true, false, true, true, false, false, true, false, false, true, false, false, false, false] rfl rfl (any_of HT_.out (by kernel_rfl)) (fun _ _ _ h => h) (Or.inl ⟨by rfl, ?_⟩) ?_ ?_
    rotate_left
    · intro w'
      go_simp
      with_reducible rfl
    rotate_left
    · simp only [Act.put, List.setIfInBounds_toArray, List.set_cons_zero, List.set_cons_succ, i64_w, i32_w]
      rfl
    refine take_ (i := 4) (N := some 10) (v := ?_) (a' := ?_) #[true, false, true, true, true, false, true, false, false, true, false, false, false, false] rfl rfl (take_ofW HT_.out HW_.out (by kernel_rfl)) (fun _ _ _ h => h) (Or.inl ⟨by rfl, ?_⟩) hHeld ?_ ?_
    rotate_left
    · rintro w' ⟨s0, s1, s2, s3, s4, s5, s6, s7, s8, s9, s10, s11, s12, s13, s14, s15, s16, s17, s18, s19, s20, s21, s22, s23, s24, s25, s26⟩
      go_simp
      with_reducible rfl
    rotate_left
    · simp only [Act.put, List.setIfInBounds_toArray, List.set_cons_zero, List.set_cons_succ, i64_w, i32_w]
      rfl
    refine take_ (i := 7) (N := some 13) (v := ?_) (a' := ?_) #[true, false, true, true, true, false, true, true, false, true, false, false, false, false] rfl rfl (take_ofW HT_.out HW_.out (by kernel_rfl)) (fun _ _ _ h => h) (Or.inl ⟨by rfl, ?_⟩) hHeld ?_ ?_
    rotate_left
    · rintro w' ⟨s0, s1, s2, s3, s4, s5, s6, s7, s8, s9, s10, s11, s12, s13, s14, s15, s16, s17, s18, s19, s20, s21, s22, s23, s24, s25, s26⟩
      go_simp
      with_reducible rfl
    rotate_left
    · simp only [Act.put, List.setIfInBounds_toArray, List.set_cons_zero, List.set_cons_succ, i64_w, i32_w]
      rfl
    refine take_ (i := 10) (N := some 16) (v := ?_) (a' := ?_) #[true, false, true, true, true, false, true, true, false, true, true, false, false, false] rfl rfl (take_ofW HT_.out HW_.out (by kernel_rfl)) (fun _ _ _ h => h) (Or.inl ⟨by rfl, ?_⟩) hHeld ?_ ?_
    rotate_left
    · rintro w' ⟨s0, s1, s2, s3, s4, s5, s6, s7, s8, s9, s10, s11, s12, s13, s14, s15, s16, s17, s18, s19, s20, s21, s22, s23, s24, s25, s26⟩
      go_simp
      with_reducible rfl
    rotate_left
    · simp only [Act.put, List.setIfInBounds_toArray, List.set_cons_zero, List.set_cons_succ, i64_w, i32_w]
      rfl
    refine one_ (i := 1) (N := some 7) #[true, true, true, true, true, false, true, true, false, true, true, false, false, false] rfl rfl (one_of HT_.out (by kernel_rfl)) (by decide) (fun K hK => ?_)
    refine goes_ Tryd.func13 (by kernel_rfl) rfl #[.int .i64 a0] (by rfl) rfl rfl (by (try simp only [List.map_toArray, List.map_cons, List.map_nil]); first | done | rfl | (simp only [List.length_drop, List.length_take]; rfl)) ?_
    with_reducible refine (digit_Text.calls a0 t132 _ (TW0_.out.below (by repeat (first | (with_reducible first | exact HB.out | apply below_alloc | apply pw_below_drewN | apply below_drew1 | refine below_set ?_ GE131.out) | exact HB.out))) A3.out).mono ?_
    rintro e w60 ⟨rfl, hb⟩
    refine ⟨_, rfl, ?_⟩
    have n0_ := Aside0.mk (blk_below (g := gb131) (o := .cells #[.slice A1_0 l1_0.length c1_0, .slice A1_1 l1_1.length c1_1, .bool a1_2, .int .i64 a1_3, .bool a1_4, .int .i64 a1_5, .int .i64 a1_6, .int .i64 a1_7, .int .i64 a1_8, .int .i64 a1_9, .slice A1_10 l1_10.length c1_10, .slice A1_11 l1_11.length c1_11, .bool a1_12, .slice A1_13 l1_13.length c1_13, .bool a1_14, .int .i64 a1_15, .int .i64 a1_16, .int .i64 a1_17, .int .i64 a1_18, .int .i64 a1_19, .bool a1_20, .bool a1_21, .bool a1_22, .slice A1_23 l1_23.length c1_23, .slice A1_24 l1_24.length c1_24, .slice A1_25 l1_25.length c1_25, .slice A1_26 l1_26.length c1_26] 34 (0, 0)) (by (with_reducible repeat (first | refine blk_drewN ?_ _ | refine blk_drew ?_ | refine blk_alloc ?_ _)); exact BK131.out) hb)
    have n1_ := Aside0.mk (below_step (by repeat (first | (with_reducible first | exact HB.out | apply below_alloc | apply pw_below_drewN | apply below_drew1 | refine below_set ?_ GE131.out) | exact HB.out)) hb)
    clear BK131
    clear HB
    have BK131 := n0_
    have HB := n1_
    clear n0_ n1_
    (try clear hb)
    (try clear hb2)
    (try clear hk)
    (try clear hi)
    refine hK.out _ _ ⟨(blk_cell BK131.out 0).trans rfl, (blk_cell BK131.out 1).trans rfl, (blk_cell BK131.out 2).trans rfl, (blk_cell BK131.out 3).trans rfl, (blk_cell BK131.out 4).trans rfl, (blk_cell BK131.out 5).trans rfl, (blk_cell BK131.out 6).trans rfl, (blk_cell BK131.out 7).trans rfl, (blk_cell BK131.out 8).trans rfl, (blk_cell BK131.out 9).trans rfl, (blk_cell BK131.out 10).trans rfl, (blk_cell BK131.out 11).trans rfl, (blk_cell BK131.out 12).trans rfl, (blk_cell BK131.out 13).trans rfl, (blk_cell BK131.out 14).trans rfl, (blk_cell BK131.out 15).trans rfl, (blk_cell BK131.out 16).trans rfl, (blk_cell BK131.out 17).trans rfl, (blk_cell BK131.out 18).trans rfl, (blk_cell BK131.out 19).trans rfl, (blk_cell BK131.out 20).trans rfl, (blk_cell BK131.out 21).trans rfl, (blk_cell BK131.out 22).trans rfl, (blk_cell BK131.out 23).trans rfl, (blk_cell BK131.out 24).trans rfl, (blk_cell BK131.out 25).trans rfl, (blk_cell BK131.out 26).trans rfl⟩ (fun hHeld => ?_)
    clear hK K
    refine norm_ (a' := ?_) ?_ ?_
    rotate_left
    · show Act.put _ (some 7) _ = _
      simp only [Act.put, List.setIfInBounds_toArray, List.set_cons_zero, List.set_cons_succ, i64_w, i32_w]
      rfl
    refine one_ (i := 5) (N := some 11) #[true, true, true, true, true, true, true, true, false, true, true, false, false, false] rfl rfl (one_of HT_.out (by kernel_rfl)) (by decide) (fun K hK => ?_)
    refine goes_ Tryd.func13 (by kernel_rfl) rfl #[.int .i64 a1_3] (by rfl) rfl rfl (by (try simp only [List.map_toArray, List.map_cons, List.map_nil]); first | done | rfl | (simp only [List.length_drop, List.length_take]; rfl)) ?_
    with_reducible refine (digit_Text.calls a1_3 t133 _ (TW0_.out.below (by repeat (first | (with_reducible first | exact HB.out | apply below_alloc | apply pw_below_drewN | apply below_drew1 | refine below_set ?_ GE131.out) | exact HB.out))) A4.out).mono ?_
    rintro e w61 ⟨rfl, hb⟩
    refine ⟨_, rfl, ?_⟩
    have n0_ := Aside0.mk (blk_below (g := gb131) (o := .cells #[.slice A1_0 l1_0.length c1_0, .slice A1_1 l1_1.length c1_1, .bool a1_2, .int .i64 a1_3, .bool a1_4, .int .i64 a1_5, .int .i64 a1_6, .int .i64 a1_7, .int .i64 a1_8, .int .i64 a1_9, .slice A1_10 l1_10.length c1_10, .slice A1_11 l1_11.length c1_11, .bool a1_12, .slice A1_13 l1_13.length c1_13, .bool a1_14, .int .i64 a1_15, .int .i64 a1_16, .int .i64 a1_17, .int .i64 a1_18, .int .i64 a1_19, .bool a1_20, .bool a1_21, .bool a1_22, .slice A1_23 l1_23.length c1_23, .slice A1_24 l1_24.length c1_24, .slice A1_25 l1_25.length c1_25, .slice A1_26 l1_26.length c1_26] 34 (0, 0)) (by (with_reducible repeat (first | refine blk_drewN ?_ _ | refine blk_drew ?_ | refine blk_alloc ?_ _)); exact BK131.out) hb)
    have n1_ := Aside0.mk (below_step (by repeat (first | (with_reducible first | exact HB.out | apply below_alloc | apply pw_below_drewN | apply below_drew1 | refine below_set ?_ GE131.out) | exact HB.out)) hb)
    clear BK131
    clear HB
    have BK131 := n0_
    have HB := n1_
    clear n0_ n1_
    (try clear hb)
    (try clear hb2)
    (try clear hk)
    (try clear hi)
    refine hK.out _ _ ⟨(blk_cell BK131.out 0).trans rfl, (blk_cell BK131.out 1).trans rfl, (blk_cell BK131.out 2).trans rfl, (blk_cell BK131.out 3).trans rfl, (blk_cell BK131.out 4).trans rfl, (blk_cell BK131.out 5).trans rfl, (blk_cell BK131.out 6).trans rfl, (blk_cell BK131.out 7).trans rfl, (blk_cell BK131.out 8).trans rfl, (blk_cell BK131.out 9).trans rfl, (blk_cell BK131.out 10).trans rfl, (blk_cell BK131.out 11).trans rfl, (blk_cell BK131.out 12).trans rfl, (blk_cell BK131.out 13).trans rfl, (blk_cell BK131.out 14).trans rfl, (blk_cell BK131.out 15).trans rfl, (blk_cell BK131.out 16).trans rfl, (blk_cell BK131.out 17).trans rfl, (blk_cell BK131.out 18).trans rfl, (blk_cell BK131.out 19).trans rfl, (blk_cell BK131.out 20).trans rfl, (blk_cell BK131.out 21).trans rfl, (blk_cell BK131.out 22).trans rfl, (blk_cell BK131.out 23).trans rfl, (blk_cell BK131.out 24).trans rfl, (blk_cell BK131.out 25).trans rfl, (blk_cell BK131.out 26).trans rfl⟩ (fun hHeld => ?_)
    clear hK K
    refine norm_ (a' := ?_) ?_ ?_
    rotate_left
    · show Act.put _ (some 11) _ = _
      simp only [Act.put, List.setIfInBounds_toArray, List.set_cons_zero, List.set_cons_succ, i64_w, i32_w]
      rfl
    refine one_ (i := 8) (N := some 14) #[true, true, true, true, true, true, true, true, true, true, true, false, false, false] rfl rfl (one_of HT_.out (by kernel_rfl)) (by decide) (fun K hK => ?_)
    refine goes_ Tryd.func13 (by kernel_rfl) rfl #[.int .i64 a1_16] (by rfl) rfl rfl (by (try simp only [List.map_toArray, List.map_cons, List.map_nil]); first | done | rfl | (simp only [List.length_drop, List.length_take]; rfl)) ?_
    with_reducible refine (digit_Text.calls a1_16 t134 _ (TW0_.out.below (by repeat (first | (with_reducible first | exact HB.out | apply below_alloc | apply pw_below_drewN | apply below_drew1 | refine below_set ?_ GE131.out) | exact HB.out))) A5.out).mono ?_
    rintro e w62 ⟨rfl, hb⟩
    refine ⟨_, rfl, ?_⟩
    have n0_ := Aside0.mk (blk_below (g := gb131) (o := .cells #[.slice A1_0 l1_0.length c1_0, .slice A1_1 l1_1.length c1_1, .bool a1_2, .int .i64 a1_3, .bool a1_4, .int .i64 a1_5, .int .i64 a1_6, .int .i64 a1_7, .int .i64 a1_8, .int .i64 a1_9, .slice A1_10 l1_10.length c1_10, .slice A1_11 l1_11.length c1_11, .bool a1_12, .slice A1_13 l1_13.length c1_13, .bool a1_14, .int .i64 a1_15, .int .i64 a1_16, .int .i64 a1_17, .int .i64 a1_18, .int .i64 a1_19, .bool a1_20, .bool a1_21, .bool a1_22, .slice A1_23 l1_23.length c1_23, .slice A1_24 l1_24.length c1_24, .slice A1_25 l1_25.length c1_25, .slice A1_26 l1_26.length c1_26] 34 (0, 0)) (by (with_reducible repeat (first | refine blk_drewN ?_ _ | refine blk_drew ?_ | refine blk_alloc ?_ _)); exact BK131.out) hb)
    have n1_ := Aside0.mk (below_step (by repeat (first | (with_reducible first | exact HB.out | apply below_alloc | apply pw_below_drewN | apply below_drew1 | refine below_set ?_ GE131.out) | exact HB.out)) hb)
    clear BK131
    clear HB
    have BK131 := n0_
    have HB := n1_
    clear n0_ n1_
    (try clear hb)
    (try clear hb2)
    (try clear hk)
    (try clear hi)
    refine hK.out _ _ ⟨(blk_cell BK131.out 0).trans rfl, (blk_cell BK131.out 1).trans rfl, (blk_cell BK131.out 2).trans rfl, (blk_cell BK131.out 3).trans rfl, (blk_cell BK131.out 4).trans rfl, (blk_cell BK131.out 5).trans rfl, (blk_cell BK131.out 6).trans rfl, (blk_cell BK131.out 7).trans rfl, (blk_cell BK131.out 8).trans rfl, (blk_cell BK131.out 9).trans rfl, (blk_cell BK131.out 10).trans rfl, (blk_cell BK131.out 11).trans rfl, (blk_cell BK131.out 12).trans rfl, (blk_cell BK131.out 13).trans rfl, (blk_cell BK131.out 14).trans rfl, (blk_cell BK131.out 15).trans rfl, (blk_cell BK131.out 16).trans rfl, (blk_cell BK131.out 17).trans rfl, (blk_cell BK131.out 18).trans rfl, (blk_cell BK131.out 19).trans rfl, (blk_cell BK131.out 20).trans rfl, (blk_cell BK131.out 21).trans rfl, (blk_cell BK131.out 22).trans rfl, (blk_cell BK131.out 23).trans rfl, (blk_cell BK131.out 24).trans rfl, (blk_cell BK131.out 25).trans rfl, (blk_cell BK131.out 26).trans rfl⟩ (fun hHeld => ?_)
    clear hK K
    refine norm_ (a' := ?_) ?_ ?_
    rotate_left
    · show Act.put _ (some 14) _ = _
      simp only [Act.put, List.setIfInBounds_toArray, List.set_cons_zero, List.set_cons_succ, i64_w, i32_w]
      rfl
    refine one_ (i := 11) (N := some 17) #[true, true, true, true, true, true, true, true, true, true, true, true, false, false] rfl rfl (one_of HT_.out (by kernel_rfl)) (by decide) (fun K hK => ?_)
    refine goes_ Tryd.func14 (by kernel_rfl) rfl #[.int .i64 a1_15] (by rfl) rfl rfl (by (try simp only [List.map_toArray, List.map_cons, List.map_nil]); first | done | rfl | (simp only [List.length_drop, List.length_take]; rfl)) ?_
    with_reducible refine (view_phase.calls a1_15 t135 _ (TW0_.out.below (by repeat (first | (with_reducible first | exact HB.out | apply below_alloc | apply pw_below_drewN | apply below_drew1 | refine below_set ?_ GE131.out) | exact HB.out))) A6.out).mono ?_
    rintro e w63 ⟨rfl, hb⟩
    refine ⟨_, rfl, ?_⟩
    have n0_ := Aside0.mk (blk_below (g := gb131) (o := .cells #[.slice A1_0 l1_0.length c1_0, .slice A1_1 l1_1.length c1_1, .bool a1_2, .int .i64 a1_3, .bool a1_4, .int .i64 a1_5, .int .i64 a1_6, .int .i64 a1_7, .int .i64 a1_8, .int .i64 a1_9, .slice A1_10 l1_10.length c1_10, .slice A1_11 l1_11.length c1_11, .bool a1_12, .slice A1_13 l1_13.length c1_13, .bool a1_14, .int .i64 a1_15, .int .i64 a1_16, .int .i64 a1_17, .int .i64 a1_18, .int .i64 a1_19, .bool a1_20, .bool a1_21, .bool a1_22, .slice A1_23 l1_23.length c1_23, .slice A1_24 l1_24.length c1_24, .slice A1_25 l1_25.length c1_25, .slice A1_26 l1_26.length c1_26] 34 (0, 0)) (by (with_reducible repeat (first | refine blk_drewN ?_ _ | refine blk_drew ?_ | refine blk_alloc ?_ _)); exact BK131.out) hb)
    have n1_ := Aside0.mk (below_step (by repeat (first | (with_reducible first | exact HB.out | apply below_alloc | apply pw_below_drewN | apply below_drew1 | refine below_set ?_ GE131.out) | exact HB.out)) hb)
    clear BK131
    clear HB
    have BK131 := n0_
    have HB := n1_
    clear n0_ n1_
    (try clear hb)
    (try clear hb2)
    (try clear hk)
    (try clear hi)
    refine hK.out _ _ ⟨(blk_cell BK131.out 0).trans rfl, (blk_cell BK131.out 1).trans rfl, (blk_cell BK131.out 2).trans rfl, (blk_cell BK131.out 3).trans rfl, (blk_cell BK131.out 4).trans rfl, (blk_cell BK131.out 5).trans rfl, (blk_cell BK131.out 6).trans rfl, (blk_cell BK131.out 7).trans rfl, (blk_cell BK131.out 8).trans rfl, (blk_cell BK131.out 9).trans rfl, (blk_cell BK131.out 10).trans rfl, (blk_cell BK131.out 11).trans rfl, (blk_cell BK131.out 12).trans rfl, (blk_cell BK131.out 13).trans rfl, (blk_cell BK131.out 14).trans rfl, (blk_cell BK131.out 15).trans rfl, (blk_cell BK131.out 16).trans rfl, (blk_cell BK131.out 17).trans rfl, (blk_cell BK131.out 18).trans rfl, (blk_cell BK131.out 19).trans rfl, (blk_cell BK131.out 20).trans rfl, (blk_cell BK131.out 21).trans rfl, (blk_cell BK131.out 22).trans rfl, (blk_cell BK131.out 23).trans rfl, (blk_cell BK131.out 24).trans rfl, (blk_cell BK131.out 25).trans rfl, (blk_cell BK131.out 26).trans rfl⟩ (fun hHeld => ?_)
    clear hK K
    refine norm_ (a' := ?_) ?_ ?_
    rotate_left
    · show Act.put _ (some 17) _ = _
      simp only [Act.put, List.setIfInBounds_toArray, List.set_cons_zero, List.set_cons_succ, i64_w, i32_w]
      rfl
    refine one_ (i := 12) (N := some 18) #[true, true, true, true, true, true, true, true, true, true, true, true, true, false] rfl rfl (one_of HT_.out (by kernel_rfl)) (by decide) (fun K hK => ?_)
    refine Kd.R_lit_step Kd.string _ 9 ?hg (N := 18) ?hd (xs := ([(⟨#[115, 116, 101, 112]⟩ : ByteArray), t132, (⟨#[108, 105, 110, 101]⟩ : ByteArray), t133, (⟨#[112, 99]⟩ : ByteArray), t134, (⟨#[112, 104, 97, 115, 101]⟩ : ByteArray), t135] : List ByteArray)) (inner := [.string (⟨#[115, 116, 101, 112]⟩ : ByteArray), .string t132, .string (⟨#[108, 105, 110, 101]⟩ : ByteArray), .string t133, .string (⟨#[112, 99]⟩ : ByteArray), .string t134, .string (⟨#[112, 104, 97, 115, 101]⟩ : ByteArray), .string t135]) (ok := fun _ => True) (okp := fun _ => True) ?hr ?hp (fun _ hk => hk) trivial (Below.refl _ _) (Nat.le_refl _) (by simp) ?_; (case hd => rfl); (case hg => rfl); (case hr => first | (go_simp; done) | (go_simp; rfl)); (case hp => exact (Reps.one (show Kd.M Kd.string _ _ _ (⟨#[115, 116, 101, 112]⟩ : ByteArray) [.string (⟨#[115, 116, 101, 112]⟩ : ByteArray)] from rfl) (Reps.one (show Kd.M Kd.string _ _ _ t132 [.string t132] from rfl) (Reps.one (show Kd.M Kd.string _ _ _ (⟨#[108, 105, 110, 101]⟩ : ByteArray) [.string (⟨#[108, 105, 110, 101]⟩ : ByteArray)] from rfl) (Reps.one (show Kd.M Kd.string _ _ _ t133 [.string t133] from rfl) (Reps.one (show Kd.M Kd.string _ _ _ (⟨#[112, 99]⟩ : ByteArray) [.string (⟨#[112, 99]⟩ : ByteArray)] from rfl) (Reps.one (show Kd.M Kd.string _ _ _ t134 [.string t134] from rfl) (Reps.one (show Kd.M Kd.string _ _ _ (⟨#[112, 104, 97, 115, 101]⟩ : ByteArray) [.string (⟨#[112, 104, 97, 115, 101]⟩ : ByteArray)] from rfl) (Reps.one (show Kd.M Kd.string _ _ _ t135 [.string t135] from rfl) (Reps.none _ _))))))))))
    intro v137 w64 ho65 hb hg_ hnew_
    clear hg_ hnew_
    (first | rw [← Ny136.out] at ho65 | (simp only [Int.reduceToNat] at ho65; rw [← Ny136.out] at ho65))
    have n0_ := Aside0.mk (Kd.R_lower ho65 (below_size (by repeat (first | (with_reducible first | exact HB.out | apply below_alloc | apply pw_below_drewN | apply below_drew1 | refine below_set ?_ GE131.out) | exact HB.out))))
    have n1_ := Aside0.mk (blk_below (g := gb131) (o := .cells #[.slice A1_0 l1_0.length c1_0, .slice A1_1 l1_1.length c1_1, .bool a1_2, .int .i64 a1_3, .bool a1_4, .int .i64 a1_5, .int .i64 a1_6, .int .i64 a1_7, .int .i64 a1_8, .int .i64 a1_9, .slice A1_10 l1_10.length c1_10, .slice A1_11 l1_11.length c1_11, .bool a1_12, .slice A1_13 l1_13.length c1_13, .bool a1_14, .int .i64 a1_15, .int .i64 a1_16, .int .i64 a1_17, .int .i64 a1_18, .int .i64 a1_19, .bool a1_20, .bool a1_21, .bool a1_22, .slice A1_23 l1_23.length c1_23, .slice A1_24 l1_24.length c1_24, .slice A1_25 l1_25.length c1_25, .slice A1_26 l1_26.length c1_26] 34 (0, 0)) (by (with_reducible repeat (first | refine blk_drewN ?_ _ | refine blk_drew ?_ | refine blk_alloc ?_ _)); exact BK131.out) hb)
    have n2_ := Aside0.mk (below_step (by repeat (first | (with_reducible first | exact HB.out | apply below_alloc | apply pw_below_drewN | apply below_drew1 | refine below_set ?_ GE131.out) | exact HB.out)) hb)
    clear BK131
    clear HB
    have HO138 := n0_
    have BK131 := n1_
    have HB := n2_
    clear n0_ n1_ n2_
    clear hb ho65
    refine hK.out _ _ ⟨(blk_cell BK131.out 0).trans rfl, (blk_cell BK131.out 1).trans rfl, (blk_cell BK131.out 2).trans rfl, (blk_cell BK131.out 3).trans rfl, (blk_cell BK131.out 4).trans rfl, (blk_cell BK131.out 5).trans rfl, (blk_cell BK131.out 6).trans rfl, (blk_cell BK131.out 7).trans rfl, (blk_cell BK131.out 8).trans rfl, (blk_cell BK131.out 9).trans rfl, (blk_cell BK131.out 10).trans rfl, (blk_cell BK131.out 11).trans rfl, (blk_cell BK131.out 12).trans rfl, (blk_cell BK131.out 13).trans rfl, (blk_cell BK131.out 14).trans rfl, (blk_cell BK131.out 15).trans rfl, (blk_cell BK131.out 16).trans rfl, (blk_cell BK131.out 17).trans rfl, (blk_cell BK131.out 18).trans rfl, (blk_cell BK131.out 19).trans rfl, (blk_cell BK131.out 20).trans rfl, (blk_cell BK131.out 21).trans rfl, (blk_cell BK131.out 22).trans rfl, (blk_cell BK131.out 23).trans rfl, (blk_cell BK131.out 24).trans rfl, (blk_cell BK131.out 25).trans rfl, (blk_cell BK131.out 26).trans rfl⟩ (fun hHeld => ?_)
    clear hK K
    refine norm_ (a' := ?_) ?_ ?_
    rotate_left
    · show Act.put _ (some 18) _ = _
      simp only [Act.put, List.setIfInBounds_toArray, List.set_cons_zero, List.set_cons_succ, i64_w, i32_w]
      rfl
    refine pure_ (i := 13) (N := some 5) (v := ?_) (a' := ?_) #[true, true, true, true, true, true, true, true, true, true, true, true, true, true] rfl rfl (any_of HT_.out (by kernel_rfl)) (fun _ _ _ h => h) (Or.inl ⟨by rfl, ?_⟩) ?_ ?_
    rotate_left
    · intro w'
      go_simp
      with_reducible rfl
    rotate_left
    · simp only [Act.put, List.setIfInBounds_toArray, List.set_cons_zero, List.set_cons_succ, i64_w, i32_w]
      rfl
    refine done_ (done_of HT_.out (by kernel_rfl)) ?_
    have hcz66_0 : w64.cell? ⟨gb131, 0, none⟩ = some (.slice A1_0 l1_0.length c1_0) := (blk_cell BK131.out 0).trans rfl
    have hcz66_1 : w64.cell? ⟨gb131, 1, none⟩ = some (.slice A1_1 l1_1.length c1_1) := (blk_cell BK131.out 1).trans rfl
    have hcz66_2 : w64.cell? ⟨gb131, 2, none⟩ = some (.bool a1_2) := (blk_cell BK131.out 2).trans rfl
    have hcz66_3 : w64.cell? ⟨gb131, 3, none⟩ = some (.int .i64 a1_3) := (blk_cell BK131.out 3).trans rfl
    have hcz66_4 : w64.cell? ⟨gb131, 4, none⟩ = some (.bool a1_4) := (blk_cell BK131.out 4).trans rfl
    have hcz66_5 : w64.cell? ⟨gb131, 5, none⟩ = some (.int .i64 a1_5) := (blk_cell BK131.out 5).trans rfl
    have hcz66_6 : w64.cell? ⟨gb131, 6, none⟩ = some (.int .i64 a1_6) := (blk_cell BK131.out 6).trans rfl
    have hcz66_7 : w64.cell? ⟨gb131, 7, none⟩ = some (.int .i64 a1_7) := (blk_cell BK131.out 7).trans rfl
    have hcz66_8 : w64.cell? ⟨gb131, 8, none⟩ = some (.int .i64 a1_8) := (blk_cell BK131.out 8).trans rfl
    have hcz66_9 : w64.cell? ⟨gb131, 9, none⟩ = some (.int .i64 a1_9) := (blk_cell BK131.out 9).trans rfl
    have hcz66_10 : w64.cell? ⟨gb131, 10, none⟩ = some (.slice A1_10 l1_10.length c1_10) := (blk_cell BK131.out 10).trans rfl
    have hcz66_11 : w64.cell? ⟨gb131, 11, none⟩ = some (.slice A1_11 l1_11.length c1_11) := (blk_cell BK131.out 11).trans rfl
    have hcz66_12 : w64.cell? ⟨gb131, 12, none⟩ = some (.bool a1_12) := (blk_cell BK131.out 12).trans rfl
    have hcz66_13 : w64.cell? ⟨gb131, 13, none⟩ = some (.slice A1_13 l1_13.length c1_13) := (blk_cell BK131.out 13).trans rfl
    have hcz66_14 : w64.cell? ⟨gb131, 14, none⟩ = some (.bool a1_14) := (blk_cell BK131.out 14).trans rfl
    have hcz66_15 : w64.cell? ⟨gb131, 15, none⟩ = some (.int .i64 a1_15) := (blk_cell BK131.out 15).trans rfl
    have hcz66_16 : w64.cell? ⟨gb131, 16, none⟩ = some (.int .i64 a1_16) := (blk_cell BK131.out 16).trans rfl
    have hcz66_17 : w64.cell? ⟨gb131, 17, none⟩ = some (.int .i64 a1_17) := (blk_cell BK131.out 17).trans rfl
    have hcz66_18 : w64.cell? ⟨gb131, 18, none⟩ = some (.int .i64 a1_18) := (blk_cell BK131.out 18).trans rfl
    have hcz66_19 : w64.cell? ⟨gb131, 19, none⟩ = some (.int .i64 a1_19) := (blk_cell BK131.out 19).trans rfl
    have hcz66_20 : w64.cell? ⟨gb131, 20, none⟩ = some (.bool a1_20) := (blk_cell BK131.out 20).trans rfl
    have hcz66_21 : w64.cell? ⟨gb131, 21, none⟩ = some (.bool a1_21) := (blk_cell BK131.out 21).trans rfl
    have hcz66_22 : w64.cell? ⟨gb131, 22, none⟩ = some (.bool a1_22) := (blk_cell BK131.out 22).trans rfl
    have hcz66_23 : w64.cell? ⟨gb131, 23, none⟩ = some (.slice A1_23 l1_23.length c1_23) := (blk_cell BK131.out 23).trans rfl
    have hcz66_24 : w64.cell? ⟨gb131, 24, none⟩ = some (.slice A1_24 l1_24.length c1_24) := (blk_cell BK131.out 24).trans rfl
    have hcz66_25 : w64.cell? ⟨gb131, 25, none⟩ = some (.slice A1_25 l1_25.length c1_25) := (blk_cell BK131.out 25).trans rfl
    have hcz66_26 : w64.cell? ⟨gb131, 26, none⟩ = some (.slice A1_26 l1_26.length c1_26) := (blk_cell BK131.out 26).trans rfl
    have hfz66_0 := blk_frozen BK131.out 0
    have hfz66_1 := blk_frozen BK131.out 1
    have hfz66_2 := blk_frozen BK131.out 2
    have hfz66_3 := blk_frozen BK131.out 3
    have hfz66_4 := blk_frozen BK131.out 4
    have hfz66_5 := blk_frozen BK131.out 5
    have hfz66_6 := blk_frozen BK131.out 6
    have hfz66_7 := blk_frozen BK131.out 7
    have hfz66_8 := blk_frozen BK131.out 8
    have hfz66_9 := blk_frozen BK131.out 9
    have hfz66_10 := blk_frozen BK131.out 10
    have hfz66_11 := blk_frozen BK131.out 11
    have hfz66_12 := blk_frozen BK131.out 12
    have hfz66_13 := blk_frozen BK131.out 13
    have hfz66_14 := blk_frozen BK131.out 14
    have hfz66_15 := blk_frozen BK131.out 15
    have hfz66_16 := blk_frozen BK131.out 16
    have hfz66_17 := blk_frozen BK131.out 17
    have hfz66_18 := blk_frozen BK131.out 18
    have hfz66_19 := blk_frozen BK131.out 19
    have hfz66_20 := blk_frozen BK131.out 20
    have hfz66_21 := blk_frozen BK131.out 21
    have hfz66_22 := blk_frozen BK131.out 22
    have hfz66_23 := blk_frozen BK131.out 23
    have hfz66_24 := blk_frozen BK131.out 24
    have hfz66_25 := blk_frozen BK131.out 25
    have hfz66_26 := blk_frozen BK131.out 26
    obtain ⟨Ao67, co67, eo67⟩ := Kd.R_slice HO138.out
    subst eo67
    try go_wp2_with (first | ((with_reducible refine gate_callee (f := 15) rfl ?_); refine goesL_ (some 41) rfl rfl Tryd.func15 (by kernel_rfl) rfl #[.slice Ao67 y136.length co67] rfl (by (try simp only [List.map_toArray, List.map_cons, List.map_nil]); first | done | rfl | (simp only [List.length_drop, List.length_take]; rfl)) ?_; (with_reducible refine (show_Row.calls _ _ y136 t156 _ ?side1 ?side2 A57.out).mono ?_); (case side1 => repeat (first | exact (Kd.R_reads' HO138.out).2.2 | (with_reducible refine Kd.C_alloc ?_ _) | (with_reducible refine Kd.C_drewN ?_ _) | (with_reducible refine Kd.C_drew ?_))); (case side2 => exact (Kd.R_reads' HO138.out).2.1); rintro e w68 ⟨rfl, hb⟩; refine ⟨_, rfl, ?_⟩; have n0_ := Aside0.mk (Kd.R_below (by (with_reducible repeat (first | apply Kd.R_alloc | apply Kd.R_drewN | apply Kd.R_drew)); exact HO138.out) hb); have n1_ := Aside0.mk (blk_below (g := gb131) (o := .cells #[.slice A1_0 l1_0.length c1_0, .slice A1_1 l1_1.length c1_1, .bool a1_2, .int .i64 a1_3, .bool a1_4, .int .i64 a1_5, .int .i64 a1_6, .int .i64 a1_7, .int .i64 a1_8, .int .i64 a1_9, .slice A1_10 l1_10.length c1_10, .slice A1_11 l1_11.length c1_11, .bool a1_12, .slice A1_13 l1_13.length c1_13, .bool a1_14, .int .i64 a1_15, .int .i64 a1_16, .int .i64 a1_17, .int .i64 a1_18, .int .i64 a1_19, .bool a1_20, .bool a1_21, .bool a1_22, .slice A1_23 l1_23.length c1_23, .slice A1_24 l1_24.length c1_24, .slice A1_25 l1_25.length c1_25, .slice A1_26 l1_26.length c1_26] 34 (0, 0)) (by (with_reducible repeat (first | refine blk_drewN ?_ _ | refine blk_drew ?_ | refine blk_alloc ?_ _)); exact BK131.out) hb); have n2_ := Aside0.mk (below_step (by repeat (first | (with_reducible first | exact HB.out | apply below_alloc | apply pw_below_drewN | apply below_drew1 | refine below_set ?_ GE131.out) | exact HB.out)) hb); clear HO138; clear BK131; clear HB; have HO138 := n0_; have BK131 := n1_; have HB := n2_; clear n0_ n1_ n2_; (try clear hb); (try clear hb2); (try clear hk); (try clear hi)))
    go_ret
    exact ⟨by first | rfl | (simp [errW_none, errW_some] <;> rfl) | (simp [*, errW_none, errW_some] <;> rfl), by repeat (first | (with_reducible first | exact HB.out | apply below_alloc | apply pw_below_drewN | apply below_drew1 | refine below_set ?_ GE131.out) | exact HB.out)⟩

end Go.Proofs.YtfoijbcdbcehiaaDoor.PViewStates
