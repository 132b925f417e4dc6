-- Written by a program (wip/tools/myprint.py over the kit's print): the functions that are proved by hand stand in YtfoijbcdbcehiaaDoorHViewStates
import Derived.Test.YtfoijbcdbcehiaaDoorPViewStatesx0
namespace Go.Proofs.YtfoijbcdbcehiaaDoor.PViewStates
open Go.RowKit Go.Proofs.YtfoijbcdbcehiaaDoorW.PrintWords Go.Proofs.YtfoijbcdbcehiaaDoorW.PrintLast Go.Proofs.YtfoijbcdbcehiaaDoorW.PrintMore
attribute [local go_sem] max2_int min2_int max_two min_two max_three min_three max_four min_four   -- for this text's walks alone
set_option linter.unusedVariables false
set_option linter.unusedSimpArgs false

/-! ### palinoderef20_Great: function 4 -/
mutual
def palinoderef20_Great.j0 : Nat → Int → Bool → List Int → List Int → Bool → Int → Bool → Int → Int → Int → Int → Int → List Int → List Int → Bool → List Int → Bool → Int → Int → Int → Int → Int → Bool → Bool → Bool → List Bool → List (S48) → List (S43) → List Bool → Option (Bool)
  | 0, _, _, _, _, _, _, _, _, _, _, _, _, _, _, _, _, _, _, _, _, _, _, _, _, _, _, _, _, _ => none
  | k + 1, x3, x51, x102000, x102001, x102002, x102003, x102004, x102005, x102006, x102007, x102008, x102009, x102010, x102011, x102012, x102013, x102014, x102015, x102016, x102017, x102018, x102019, x102020, x102021, x102022, x102023, x102024, x102025, x102026 => if x51 = true then (some true) else (palinoderef20_Great.l0 k x3 0 x102000 x102001 x102002 x102003 x102004 x102005 x102006 x102007 x102008 x102009 x102010 x102011 x102012 x102013 x102014 x102015 x102016 x102017 x102018 x102019 x102020 x102021 x102022 x102023 x102024 x102025 x102026)
def palinoderef20_Great.l0 : Nat → Int → Int → List Int → List Int → Bool → Int → Bool → Int → Int → Int → Int → Int → List Int → List Int → Bool → List Int → Bool → Int → Int → Int → Int → Int → Bool → Bool → Bool → List Bool → List (S48) → List (S43) → List Bool → Option (Bool)
  | 0, _, _, _, _, _, _, _, _, _, _, _, _, _, _, _, _, _, _, _, _, _, _, _, _, _, _, _, _, _ => none
  | k + 1, x3, x4, x102000, x102001, x102002, x102003, x102004, x102005, x102006, x102007, x102008, x102009, x102010, x102011, x102012, x102013, x102014, x102015, x102016, x102017, x102018, x102019, x102020, x102021, x102022, x102023, x102024, x102025, x102026 => if x4 < (x102024.length : Int) then (if 0 ≤ x4 then (palinoderef20_Great.l0 k (wrap64 (x3 + (((rd_T48 x102024 x4).f1).length : Int))) (wrap64 (x4 + 1)) x102000 x102001 x102002 x102003 x102004 x102005 x102006 x102007 x102008 x102009 x102010 x102011 x102012 x102013 x102014 x102015 x102016 x102017 x102018 x102019 x102020 x102021 x102022 x102023 x102024 x102025 x102026) else (none)) else (palinoderef20_Great.l1 k x3 0 x102000 x102001 x102002 x102003 x102004 x102005 x102006 x102007 x102008 x102009 x102010 x102011 x102012 x102013 x102014 x102015 x102016 x102017 x102018 x102019 x102020 x102021 x102022 x102023 x102024 x102025 x102026)
def palinoderef20_Great.l1 : Nat → Int → Int → List Int → List Int → Bool → Int → Bool → Int → Int → Int → Int → Int → List Int → List Int → Bool → List Int → Bool → Int → Int → Int → Int → Int → Bool → Bool → Bool → List Bool → List (S48) → List (S43) → List Bool → Option (Bool)
  | 0, _, _, _, _, _, _, _, _, _, _, _, _, _, _, _, _, _, _, _, _, _, _, _, _, _, _, _, _, _ => none
  | k + 1, x3, x5, x102000, x102001, x102002, x102003, x102004, x102005, x102006, x102007, x102008, x102009, x102010, x102011, x102012, x102013, x102014, x102015, x102016, x102017, x102018, x102019, x102020, x102021, x102022, x102023, x102024, x102025, x102026 => if x5 < (x102025.length : Int) then (if 0 ≤ x5 then (palinoderef20_Great.l1 k (wrap64 ((wrap64 (x3 + (((rd_T43 x102025 x5).f1).length : Int))) + (((rd_T43 x102025 x5).f0).size : Int))) (wrap64 (x5 + 1)) x102000 x102001 x102002 x102003 x102004 x102005 x102006 x102007 x102008 x102009 x102010 x102011 x102012 x102013 x102014 x102015 x102016 x102017 x102018 x102019 x102020 x102021 x102022 x102023 x102024 x102025 x102026) else (none)) else (some (decide (x3 > 2000)))
end
def palinoderef20_Great.f (k : Nat) (l0_0 : List Int) (l0_1 : List Int) (a0_2 : Bool) (a0_3 : Int) (a0_4 : Bool) (a0_5 : Int) (a0_6 : Int) (a0_7 : Int) (a0_8 : Int) (a0_9 : Int) (l0_10 : List Int) (l0_11 : List Int) (a0_12 : Bool) (l0_13 : List Int) (a0_14 : Bool) (a0_15 : Int) (a0_16 : Int) (a0_17 : Int) (a0_18 : Int) (a0_19 : Int) (a0_20 : Bool) (a0_21 : Bool) (a0_22 : Bool) (l0_23 : List Bool) (l0_24 : List (S48)) (l0_25 : List (S43)) (l0_26 : List Bool) : Option (Bool) := if (wrap64 ((wrap64 ((wrap64 ((wrap64 ((wrap64 ((wrap64 ((l0_0.length : Int) + (l0_1.length : Int))) + (l0_10.length : Int))) + (l0_11.length : Int))) + (l0_13.length : Int))) + (l0_23.length : Int))) + (l0_26.length : Int))) > 1000 then (palinoderef20_Great.j0 k (wrap64 ((wrap64 ((wrap64 ((wrap64 ((wrap64 ((wrap64 ((l0_0.length : Int) + (l0_1.length : Int))) + (l0_10.length : Int))) + (l0_11.length : Int))) + (l0_13.length : Int))) + (l0_23.length : Int))) + (l0_26.length : Int))) true l0_0 l0_1 a0_2 a0_3 a0_4 a0_5 a0_6 a0_7 a0_8 a0_9 l0_10 l0_11 a0_12 l0_13 a0_14 a0_15 a0_16 a0_17 a0_18 a0_19 a0_20 a0_21 a0_22 l0_23 l0_24 l0_25 l0_26) else (if (l0_24.length : Int) > 40 then (palinoderef20_Great.j0 k (wrap64 ((wrap64 ((wrap64 ((wrap64 ((wrap64 ((wrap64 ((l0_0.length : Int) + (l0_1.length : Int))) + (l0_10.length : Int))) + (l0_11.length : Int))) + (l0_13.length : Int))) + (l0_23.length : Int))) + (l0_26.length : Int))) true l0_0 l0_1 a0_2 a0_3 a0_4 a0_5 a0_6 a0_7 a0_8 a0_9 l0_10 l0_11 a0_12 l0_13 a0_14 a0_15 a0_16 a0_17 a0_18 a0_19 a0_20 a0_21 a0_22 l0_23 l0_24 l0_25 l0_26) else (palinoderef20_Great.j0 k (wrap64 ((wrap64 ((wrap64 ((wrap64 ((wrap64 ((wrap64 ((l0_0.length : Int) + (l0_1.length : Int))) + (l0_10.length : Int))) + (l0_11.length : Int))) + (l0_13.length : Int))) + (l0_23.length : Int))) + (l0_26.length : Int))) (decide ((l0_25.length : Int) > 20)) l0_0 l0_1 a0_2 a0_3 a0_4 a0_5 a0_6 a0_7 a0_8 a0_9 l0_10 l0_11 a0_12 l0_13 a0_14 a0_15 a0_16 a0_17 a0_18 a0_19 a0_20 a0_21 a0_22 l0_23 l0_24 l0_25 l0_26))
theorem palinoderef20_Great.mono_l : ∀ k, (∀ y0 y1 y2 y3 y4 y5 y6 y7 y8 y9 y10 y11 y12 y13 y14 y15 y16 y17 y18 y19 y20 y21 y22 y23 y24 y25 y26 y27 y28, LeO (palinoderef20_Great.j0 k y0 y1 y2 y3 y4 y5 y6 y7 y8 y9 y10 y11 y12 y13 y14 y15 y16 y17 y18 y19 y20 y21 y22 y23 y24 y25 y26 y27 y28) (palinoderef20_Great.j0 (k + 1) y0 y1 y2 y3 y4 y5 y6 y7 y8 y9 y10 y11 y12 y13 y14 y15 y16 y17 y18 y19 y20 y21 y22 y23 y24 y25 y26 y27 y28)) ∧ (∀ y0 y1 y2 y3 y4 y5 y6 y7 y8 y9 y10 y11 y12 y13 y14 y15 y16 y17 y18 y19 y20 y21 y22 y23 y24 y25 y26 y27 y28, LeO (palinoderef20_Great.l0 k y0 y1 y2 y3 y4 y5 y6 y7 y8 y9 y10 y11 y12 y13 y14 y15 y16 y17 y18 y19 y20 y21 y22 y23 y24 y25 y26 y27 y28) (palinoderef20_Great.l0 (k + 1) y0 y1 y2 y3 y4 y5 y6 y7 y8 y9 y10 y11 y12 y13 y14 y15 y16 y17 y18 y19 y20 y21 y22 y23 y24 y25 y26 y27 y28)) ∧ (∀ y0 y1 y2 y3 y4 y5 y6 y7 y8 y9 y10 y11 y12 y13 y14 y15 y16 y17 y18 y19 y20 y21 y22 y23 y24 y25 y26 y27 y28, LeO (palinoderef20_Great.l1 k y0 y1 y2 y3 y4 y5 y6 y7 y8 y9 y10 y11 y12 y13 y14 y15 y16 y17 y18 y19 y20 y21 y22 y23 y24 y25 y26 y27 y28) (palinoderef20_Great.l1 (k + 1) y0 y1 y2 y3 y4 y5 y6 y7 y8 y9 y10 y11 y12 y13 y14 y15 y16 y17 y18 y19 y20 y21 y22 y23 y24 y25 y26 y27 y28))
  | 0 => ⟨fun _ _ _ _ _ _ _ _ _ _ _ _ _ _ _ _ _ _ _ _ _ _ _ _ _ _ _ _ _ r h => by simp [palinoderef20_Great.j0] at h, fun _ _ _ _ _ _ _ _ _ _ _ _ _ _ _ _ _ _ _ _ _ _ _ _ _ _ _ _ _ r h => by simp [palinoderef20_Great.l0] at h, fun _ _ _ _ _ _ _ _ _ _ _ _ _ _ _ _ _ _ _ _ _ _ _ _ _ _ _ _ _ r h => by simp [palinoderef20_Great.l1] at h⟩
  | k + 1 => by
    obtain ⟨ih0, ih1, ih2⟩ := palinoderef20_Great.mono_l k
    refine ⟨?_, ?_, ?_⟩
    · intro y0 y1 y2 y3 y4 y5 y6 y7 y8 y9 y10 y11 y12 y13 y14 y15 y16 y17 y18 y19 y20 y21 y22 y23 y24 y25 y26 y27 y28
      unfold palinoderef20_Great.j0
      repeat' first
      | (with_reducible exact ih0 _ _ _ _ _ _ _ _ _ _ _ _ _ _ _ _ _ _ _ _ _ _ _ _ _ _ _ _ _)
      | (with_reducible exact ih1 _ _ _ _ _ _ _ _ _ _ _ _ _ _ _ _ _ _ _ _ _ _ _ _ _ _ _ _ _)
      | (with_reducible exact ih2 _ _ _ _ _ _ _ _ _ _ _ _ _ _ _ _ _ _ _ _ _ _ _ _ _ _ _ _ _)
      | (with_reducible exact LeO.refl _)
      | (with_reducible exact LeO.none _)
      | (with_reducible refine LeO.ite ?_ ?_)
      | (with_reducible refine LeO.bind ?_ (fun _ => ?_))
      | exact ih0 _ _ _ _ _ _ _ _ _ _ _ _ _ _ _ _ _ _ _ _ _ _ _ _ _ _ _ _ _
      | exact ih1 _ _ _ _ _ _ _ _ _ _ _ _ _ _ _ _ _ _ _ _ _ _ _ _ _ _ _ _ _
      | exact ih2 _ _ _ _ _ _ _ _ _ _ _ _ _ _ _ _ _ _ _ _ _ _ _ _ _ _ _ _ _
      | exact LeO.none _
      | refine LeO.ite ?_ ?_
      | refine LeO.bind ?_ (fun _ => ?_)
    · intro y0 y1 y2 y3 y4 y5 y6 y7 y8 y9 y10 y11 y12 y13 y14 y15 y16 y17 y18 y19 y20 y21 y22 y23 y24 y25 y26 y27 y28
      unfold palinoderef20_Great.l0
      repeat' first
      | (with_reducible exact ih0 _ _ _ _ _ _ _ _ _ _ _ _ _ _ _ _ _ _ _ _ _ _ _ _ _ _ _ _ _)
      | (with_reducible exact ih1 _ _ _ _ _ _ _ _ _ _ _ _ _ _ _ _ _ _ _ _ _ _ _ _ _ _ _ _ _)
      | (with_reducible exact ih2 _ _ _ _ _ _ _ _ _ _ _ _ _ _ _ _ _ _ _ _ _ _ _ _ _ _ _ _ _)
      | (with_reducible exact LeO.refl _)
      | (with_reducible exact LeO.none _)
      | (with_reducible refine LeO.ite ?_ ?_)
      | (with_reducible refine LeO.bind ?_ (fun _ => ?_))
      | exact ih0 _ _ _ _ _ _ _ _ _ _ _ _ _ _ _ _ _ _ _ _ _ _ _ _ _ _ _ _ _
      | exact ih1 _ _ _ _ _ _ _ _ _ _ _ _ _ _ _ _ _ _ _ _ _ _ _ _ _ _ _ _ _
      | exact ih2 _ _ _ _ _ _ _ _ _ _ _ _ _ _ _ _ _ _ _ _ _ _ _ _ _ _ _ _ _
      | exact LeO.none _
      | refine LeO.ite ?_ ?_
      | refine LeO.bind ?_ (fun _ => ?_)
    · intro y0 y1 y2 y3 y4 y5 y6 y7 y8 y9 y10 y11 y12 y13 y14 y15 y16 y17 y18 y19 y20 y21 y22 y23 y24 y25 y26 y27 y28
      unfold palinoderef20_Great.l1
      repeat' first
      | (with_reducible exact ih0 _ _ _ _ _ _ _ _ _ _ _ _ _ _ _ _ _ _ _ _ _ _ _ _ _ _ _ _ _)
      | (with_reducible exact ih1 _ _ _ _ _ _ _ _ _ _ _ _ _ _ _ _ _ _ _ _ _ _ _ _ _ _ _ _ _)
      | (with_reducible exact ih2 _ _ _ _ _ _ _ _ _ _ _ _ _ _ _ _ _ _ _ _ _ _ _ _ _ _ _ _ _)
      | (with_reducible exact LeO.refl _)
      | (with_reducible exact LeO.none _)
      | (with_reducible refine LeO.ite ?_ ?_)
      | (with_reducible refine LeO.bind ?_ (fun _ => ?_))
      | exact ih0 _ _ _ _ _ _ _ _ _ _ _ _ _ _ _ _ _ _ _ _ _ _ _ _ _ _ _ _ _
      | exact ih1 _ _ _ _ _ _ _ _ _ _ _ _ _ _ _ _ _ _ _ _ _ _ _ _ _ _ _ _ _
      | exact ih2 _ _ _ _ _ _ _ _ _ _ _ _ _ _ _ _ _ _ _ _ _ _ _ _ _ _ _ _ _
      | exact LeO.none _
      | refine LeO.ite ?_ ?_
      | refine LeO.bind ?_ (fun _ => ?_)
theorem palinoderef20_Great.mono : ∀ a0 a1 a2 a3 a4 a5 a6 a7 a8 a9 a10 a11 a12 a13 a14 a15 a16 a17 a18 a19 a20 a21 a22 a23 a24 a25 a26 k, LeO (palinoderef20_Great.f k a0 a1 a2 a3 a4 a5 a6 a7 a8 a9 a10 a11 a12 a13 a14 a15 a16 a17 a18 a19 a20 a21 a22 a23 a24 a25 a26) (palinoderef20_Great.f (k + 1) a0 a1 a2 a3 a4 a5 a6 a7 a8 a9 a10 a11 a12 a13 a14 a15 a16 a17 a18 a19 a20 a21 a22 a23 a24 a25 a26) := by
  intro a0 a1 a2 a3 a4 a5 a6 a7 a8 a9 a10 a11 a12 a13 a14 a15 a16 a17 a18 a19 a20 a21 a22 a23 a24 a25 a26 k
  obtain ⟨ih0, ih1, ih2⟩ := palinoderef20_Great.mono_l k
  unfold palinoderef20_Great.f
  repeat' first
      | (with_reducible exact ih0 _ _ _ _ _ _ _ _ _ _ _ _ _ _ _ _ _ _ _ _ _ _ _ _ _ _ _ _ _)
      | (with_reducible exact ih1 _ _ _ _ _ _ _ _ _ _ _ _ _ _ _ _ _ _ _ _ _ _ _ _ _ _ _ _ _)
      | (with_reducible exact ih2 _ _ _ _ _ _ _ _ _ _ _ _ _ _ _ _ _ _ _ _ _ _ _ _ _ _ _ _ _)
      | (with_reducible exact LeO.refl _)
      | (with_reducible exact LeO.none _)
      | (with_reducible refine LeO.ite ?_ ?_)
      | (with_reducible refine LeO.bind ?_ (fun _ => ?_))
      | exact ih0 _ _ _ _ _ _ _ _ _ _ _ _ _ _ _ _ _ _ _ _ _ _ _ _ _ _ _ _ _
      | exact ih1 _ _ _ _ _ _ _ _ _ _ _ _ _ _ _ _ _ _ _ _ _ _ _ _ _ _ _ _ _
      | exact ih2 _ _ _ _ _ _ _ _ _ _ _ _ _ _ _ _ _ _ _ _ _ _ _ _ _ _ _ _ _
      | exact LeO.none _
      | refine LeO.ite ?_ ?_
      | refine LeO.bind ?_ (fun _ => ?_)
set_option maxHeartbeats 8000000 in
set_option maxRecDepth 100000 in
theorem palinoderef20_Great.calls (k : Nat) (A0_0 : Option Addr) (c0_0 : Nat) (l0_0 : List Int) (A0_1 : Option Addr) (c0_1 : Nat) (l0_1 : List Int) (a0_2 : Bool) (a0_3 : Int) (a0_4 : Bool) (a0_5 : Int) (a0_6 : Int) (a0_7 : Int) (a0_8 : Int) (a0_9 : Int) (A0_10 : Option Addr) (c0_10 : Nat) (l0_10 : List Int) (A0_11 : Option Addr) (c0_11 : Nat) (l0_11 : List Int) (a0_12 : Bool) (A0_13 : Option Addr) (c0_13 : Nat) (l0_13 : List Int) (a0_14 : Bool) (a0_15 : Int) (a0_16 : Int) (a0_17 : Int) (a0_18 : Int) (a0_19 : Int) (a0_20 : Bool) (a0_21 : Bool) (a0_22 : Bool) (A0_23 : Option Addr) (c0_23 : Nat) (l0_23 : List Bool) (A0_24 : Option Addr) (c0_24 : Nat) (l0_24 : List (S48)) (A0_25 : Option Addr) (c0_25 : Nat) (l0_25 : List (S43)) (A0_26 : Option Addr) (c0_26 : Nat) (l0_26 : List Bool) (r : Bool) (w : World) (hr0_0 : Kd.C (Kd.int .u8) w A0_0 l0_0.length l0_0) (hc0_0 : l0_0.length ≤ c0_0) (hr0_1 : Kd.C (Kd.int .u8) w A0_1 l0_1.length l0_1) (hc0_1 : l0_1.length ≤ c0_1) (hr0_10 : Kd.C (Kd.int .u8) w A0_10 l0_10.length l0_10) (hc0_10 : l0_10.length ≤ c0_10) (hr0_11 : Kd.C (Kd.int .u8) w A0_11 l0_11.length l0_11) (hc0_11 : l0_11.length ≤ c0_11) (hr0_13 : Kd.C (Kd.int .u8) w A0_13 l0_13.length l0_13) (hc0_13 : l0_13.length ≤ c0_13) (hr0_23 : Kd.C Kd.bool w A0_23 l0_23.length l0_23) (hc0_23 : l0_23.length ≤ c0_23) (hr0_24 : Kd.C k48 w A0_24 l0_24.length l0_24) (hc0_24 : l0_24.length ≤ c0_24) (hr0_25 : Kd.C k43 w A0_25 l0_25.length l0_25) (hc0_25 : l0_25.length ≤ c0_25) (hr0_26 : Kd.C Kd.bool w A0_26 l0_26.length l0_26) (hc0_26 : l0_26.length ≤ c0_26) (h : palinoderef20_Great.f k l0_0 l0_1 a0_2 a0_3 a0_4 a0_5 a0_6 a0_7 a0_8 a0_9 l0_10 l0_11 a0_12 l0_13 a0_14 a0_15 a0_16 a0_17 a0_18 a0_19 a0_20 a0_21 a0_22 l0_23 l0_24 l0_25 l0_26 = some r) :
    Calls Tryd.prog 4 #[.agg #[.slice A0_0 l0_0.length c0_0, .slice A0_1 l0_1.length c0_1, .bool a0_2, .int .i64 a0_3, .bool a0_4, .int .i64 a0_5, .int .i64 a0_6, .int .i64 a0_7, .int .i64 a0_8, .int .i64 a0_9, .slice A0_10 l0_10.length c0_10, .slice A0_11 l0_11.length c0_11, .bool a0_12, .slice A0_13 l0_13.length c0_13, .bool a0_14, .int .i64 a0_15, .int .i64 a0_16, .int .i64 a0_17, .int .i64 a0_18, .int .i64 a0_19, .bool a0_20, .bool a0_21, .bool a0_22, .slice A0_23 l0_23.length c0_23, .slice A0_24 l0_24.length c0_24, .slice A0_25 l0_25.length c0_25, .slice A0_26 l0_26.length c0_26]] w fun e w' => e = .returned (.bool r) ∧ Below w.heap.size w w' := by
  have hu34 := Tryd.underlying34
  have HR0_0 := Aside0.mk hr0_0
  have HC0_0 := Aside0.mk hc0_0
  clear hr0_0 hc0_0
  have HR0_1 := Aside0.mk hr0_1
  have HC0_1 := Aside0.mk hc0_1
  clear hr0_1 hc0_1
  have HR0_10 := Aside0.mk hr0_10
  have HC0_10 := Aside0.mk hc0_10
  clear hr0_10 hc0_10
  have HR0_11 := Aside0.mk hr0_11
  have HC0_11 := Aside0.mk hc0_11
  clear hr0_11 hc0_11
  have HR0_13 := Aside0.mk hr0_13
  have HC0_13 := Aside0.mk hc0_13
  clear hr0_13 hc0_13
  have HR0_23 := Aside0.mk hr0_23
  have HC0_23 := Aside0.mk hc0_23
  clear hr0_23 hc0_23
  have HR0_24 := Aside0.mk hr0_24
  have HC0_24 := Aside0.mk hc0_24
  clear hr0_24 hc0_24
  have HR0_25 := Aside0.mk hr0_25
  have HC0_25 := Aside0.mk hc0_25
  clear hr0_25 hc0_25
  have HR0_26 := Aside0.mk hr0_26
  have HC0_26 := Aside0.mk hc0_26
  clear hr0_26 hc0_26
  have HB := Aside0.mk (Below.refl w.heap.size w)
  have H : (if (wrap64 ((wrap64 ((wrap64 ((wrap64 ((wrap64 ((wrap64 ((l0_0.length : Int) + (l0_1.length : Int))) + (l0_10.length : Int))) + (l0_11.length : Int))) + (l0_13.length : Int))) + (l0_23.length : Int))) + (l0_26.length : Int))) > 1000 then (palinoderef20_Great.j0 k (wrap64 ((wrap64 ((wrap64 ((wrap64 ((wrap64 ((wrap64 ((l0_0.length : Int) + (l0_1.length : Int))) + (l0_10.length : Int))) + (l0_11.length : Int))) + (l0_13.length : Int))) + (l0_23.length : Int))) + (l0_26.length : Int))) true l0_0 l0_1 a0_2 a0_3 a0_4 a0_5 a0_6 a0_7 a0_8 a0_9 l0_10 l0_11 a0_12 l0_13 a0_14 a0_15 a0_16 a0_17 a0_18 a0_19 a0_20 a0_21 a0_22 l0_23 l0_24 l0_25 l0_26) else (if (l0_24.length : Int) > 40 then (palinoderef20_Great.j0 k (wrap64 ((wrap64 ((wrap64 ((wrap64 ((wrap64 ((wrap64 ((l0_0.length : Int) + (l0_1.length : Int))) + (l0_10.length : Int))) + (l0_11.length : Int))) + (l0_13.length : Int))) + (l0_23.length : Int))) + (l0_26.length : Int))) true l0_0 l0_1 a0_2 a0_3 a0_4 a0_5 a0_6 a0_7 a0_8 a0_9 l0_10 l0_11 a0_12 l0_13 a0_14 a0_15 a0_16 a0_17 a0_18 a0_19 a0_20 a0_21 a0_22 l0_23 l0_24 l0_25 l0_26) else (palinoderef20_Great.j0 k (wrap64 ((wrap64 ((wrap64 ((wrap64 ((wrap64 ((wrap64 ((l0_0.length : Int) + (l0_1.length : Int))) + (l0_10.length : Int))) + (l0_11.length : Int))) + (l0_13.length : Int))) + (l0_23.length : Int))) + (l0_26.length : Int))) (decide ((l0_25.length : Int) > 20)) l0_0 l0_1 a0_2 a0_3 a0_4 a0_5 a0_6 a0_7 a0_8 a0_9 l0_10 l0_11 a0_12 l0_13 a0_14 a0_15 a0_16 a0_17 a0_18 a0_19 a0_20 a0_21 a0_22 l0_23 l0_24 l0_25 l0_26))) = some r := h
  clear h
  have HC2 := Aside0.mk H
  clear H
  go_enter Tryd.func4, Tryd.ntmps4
  go_upto_region 2 with (first | ((with_reducible refine gate_dst (N := 1) rfl ?_); (try (refine gate_guard (by rfl) ?_; dsimp only)); refine box_event ?hg (N := 1) ?hd (cs := #[.slice A0_0 l0_0.length c0_0, .slice A0_1 l0_1.length c0_1, .bool a0_2, .int .i64 a0_3, .bool a0_4, .int .i64 a0_5, .int .i64 a0_6, .int .i64 a0_7, .int .i64 a0_8, .int .i64 a0_9, .slice A0_10 l0_10.length c0_10, .slice A0_11 l0_11.length c0_11, .bool a0_12, .slice A0_13 l0_13.length c0_13, .bool a0_14, .int .i64 a0_15, .int .i64 a0_16, .int .i64 a0_17, .int .i64 a0_18, .int .i64 a0_19, .bool a0_20, .bool a0_21, .bool a0_22, .slice A0_23 l0_23.length c0_23, .slice A0_24 l0_24.length c0_24, .slice A0_25 l0_25.length c0_25, .slice A0_26 l0_26.length c0_26]) (t := 34) ?hr ?_; (case hd => rfl); (case hg => rfl); (case hr => first | (go_simp; done) | (go_simp; rfl)); intro gb101 hg w3 hbox hb; have n0_ := Aside0.mk (below_step (by repeat (first | (with_reducible first | exact HB.out | apply below_alloc | apply pw_below_drewN | apply below_drew1) | exact HB.out)) hb); have n1_ := Aside0.mk (hbox); have n2_ := Aside0.mk ((by rw [hg]; exact (below_size (by repeat (first | (with_reducible first | exact HB.out | apply below_alloc | apply pw_below_drewN | apply below_drew1) | exact HB.out))) : w.heap.size ≤ gb101)); have n3_ := Aside0.mk ((by rw [hg]; exact (below_size (by repeat (first | (with_reducible first | exact HB.out | apply below_alloc | apply pw_below_drewN | apply below_drew1) | exact HB.out))) : w.heap.size ≤ gb101)); clear HB; have HB := n0_; have BK101 := n1_; have GW101 := n2_; have GE101 := n3_; clear n0_ n1_ n2_ n3_; clear hb hbox hg; have hcz4_0 : w3.cell? ⟨gb101, 0, none⟩ = some (.slice A0_0 l0_0.length c0_0) := (blk_cell BK101.out 0).trans rfl; have hcz4_1 : w3.cell? ⟨gb101, 1, none⟩ = some (.slice A0_1 l0_1.length c0_1) := (blk_cell BK101.out 1).trans rfl; have hcz4_2 : w3.cell? ⟨gb101, 2, none⟩ = some (.bool a0_2) := (blk_cell BK101.out 2).trans rfl; have hcz4_3 : w3.cell? ⟨gb101, 3, none⟩ = some (.int .i64 a0_3) := (blk_cell BK101.out 3).trans rfl; have hcz4_4 : w3.cell? ⟨gb101, 4, none⟩ = some (.bool a0_4) := (blk_cell BK101.out 4).trans rfl; have hcz4_5 : w3.cell? ⟨gb101, 5, none⟩ = some (.int .i64 a0_5) := (blk_cell BK101.out 5).trans rfl; have hcz4_6 : w3.cell? ⟨gb101, 6, none⟩ = some (.int .i64 a0_6) := (blk_cell BK101.out 6).trans rfl; have hcz4_7 : w3.cell? ⟨gb101, 7, none⟩ = some (.int .i64 a0_7) := (blk_cell BK101.out 7).trans rfl; have hcz4_8 : w3.cell? ⟨gb101, 8, none⟩ = some (.int .i64 a0_8) := (blk_cell BK101.out 8).trans rfl; have hcz4_9 : w3.cell? ⟨gb101, 9, none⟩ = some (.int .i64 a0_9) := (blk_cell BK101.out 9).trans rfl; have hcz4_10 : w3.cell? ⟨gb101, 10, none⟩ = some (.slice A0_10 l0_10.length c0_10) := (blk_cell BK101.out 10).trans rfl; have hcz4_11 : w3.cell? ⟨gb101, 11, none⟩ = some (.slice A0_11 l0_11.length c0_11) := (blk_cell BK101.out 11).trans rfl; have hcz4_12 : w3.cell? ⟨gb101, 12, none⟩ = some (.bool a0_12) := (blk_cell BK101.out 12).trans rfl; have hcz4_13 : w3.cell? ⟨gb101, 13, none⟩ = some (.slice A0_13 l0_13.length c0_13) := (blk_cell BK101.out 13).trans rfl; have hcz4_14 : w3.cell? ⟨gb101, 14, none⟩ = some (.bool a0_14) := (blk_cell BK101.out 14).trans rfl; have hcz4_15 : w3.cell? ⟨gb101, 15, none⟩ = some (.int .i64 a0_15) := (blk_cell BK101.out 15).trans rfl; have hcz4_16 : w3.cell? ⟨gb101, 16, none⟩ = some (.int .i64 a0_16) := (blk_cell BK101.out 16).trans rfl; have hcz4_17 : w3.cell? ⟨gb101, 17, none⟩ = some (.int .i64 a0_17) := (blk_cell BK101.out 17).trans rfl; have hcz4_18 : w3.cell? ⟨gb101, 18, none⟩ = some (.int .i64 a0_18) := (blk_cell BK101.out 18).trans rfl; have hcz4_19 : w3.cell? ⟨gb101, 19, none⟩ = some (.int .i64 a0_19) := (blk_cell BK101.out 19).trans rfl; have hcz4_20 : w3.cell? ⟨gb101, 20, none⟩ = some (.bool a0_20) := (blk_cell BK101.out 20).trans rfl; have hcz4_21 : w3.cell? ⟨gb101, 21, none⟩ = some (.bool a0_21) := (blk_cell BK101.out 21).trans rfl; have hcz4_22 : w3.cell? ⟨gb101, 22, none⟩ = some (.bool a0_22) := (blk_cell BK101.out 22).trans rfl; have hcz4_23 : w3.cell? ⟨gb101, 23, none⟩ = some (.slice A0_23 l0_23.length c0_23) := (blk_cell BK101.out 23).trans rfl; have hcz4_24 : w3.cell? ⟨gb101, 24, none⟩ = some (.slice A0_24 l0_24.length c0_24) := (blk_cell BK101.out 24).trans rfl; have hcz4_25 : w3.cell? ⟨gb101, 25, none⟩ = some (.slice A0_25 l0_25.length c0_25) := (blk_cell BK101.out 25).trans rfl; have hcz4_26 : w3.cell? ⟨gb101, 26, none⟩ = some (.slice A0_26 l0_26.length c0_26) := (blk_cell BK101.out 26).trans rfl; have hfz4_0 := blk_frozen BK101.out 0; have hfz4_1 := blk_frozen BK101.out 1; have hfz4_2 := blk_frozen BK101.out 2; have hfz4_3 := blk_frozen BK101.out 3; have hfz4_4 := blk_frozen BK101.out 4; have hfz4_5 := blk_frozen BK101.out 5; have hfz4_6 := blk_frozen BK101.out 6; have hfz4_7 := blk_frozen BK101.out 7; have hfz4_8 := blk_frozen BK101.out 8; have hfz4_9 := blk_frozen BK101.out 9; have hfz4_10 := blk_frozen BK101.out 10; have hfz4_11 := blk_frozen BK101.out 11; have hfz4_12 := blk_frozen BK101.out 12; have hfz4_13 := blk_frozen BK101.out 13; have hfz4_14 := blk_frozen BK101.out 14; have hfz4_15 := blk_frozen BK101.out 15; have hfz4_16 := blk_frozen BK101.out 16; have hfz4_17 := blk_frozen BK101.out 17; have hfz4_18 := blk_frozen BK101.out 18; have hfz4_19 := blk_frozen BK101.out 19; have hfz4_20 := blk_frozen BK101.out 20; have hfz4_21 := blk_frozen BK101.out 21; have hfz4_22 := blk_frozen BK101.out 22; have hfz4_23 := blk_frozen BK101.out 23; have hfz4_24 := blk_frozen BK101.out 24; have hfz4_25 := blk_frozen BK101.out 25; have hfz4_26 := blk_frozen BK101.out 26))
  repeat (go_quiet (first | ((with_reducible refine gate_dst (N := 1) rfl ?_); (try (refine gate_guard (by rfl) ?_; dsimp only)); refine box_event ?hg (N := 1) ?hd (cs := #[.slice A0_0 l0_0.length c0_0, .slice A0_1 l0_1.length c0_1, .bool a0_2, .int .i64 a0_3, .bool a0_4, .int .i64 a0_5, .int .i64 a0_6, .int .i64 a0_7, .int .i64 a0_8, .int .i64 a0_9, .slice A0_10 l0_10.length c0_10, .slice A0_11 l0_11.length c0_11, .bool a0_12, .slice A0_13 l0_13.length c0_13, .bool a0_14, .int .i64 a0_15, .int .i64 a0_16, .int .i64 a0_17, .int .i64 a0_18, .int .i64 a0_19, .bool a0_20, .bool a0_21, .bool a0_22, .slice A0_23 l0_23.length c0_23, .slice A0_24 l0_24.length c0_24, .slice A0_25 l0_25.length c0_25, .slice A0_26 l0_26.length c0_26]) (t := 34) ?hr ?_; (case hd => rfl); (case hg => rfl); (case hr => first | (go_simp; done) | (go_simp; rfl)); intro gb101 hg w3 hbox hb; have n0_ := Aside0.mk (below_step (by repeat (first | (with_reducible first | exact HB.out | apply below_alloc | apply pw_below_drewN | apply below_drew1) | exact HB.out)) hb); have n1_ := Aside0.mk (hbox); have n2_ := Aside0.mk ((by rw [hg]; exact (below_size (by repeat (first | (with_reducible first | exact HB.out | apply below_alloc | apply pw_below_drewN | apply below_drew1) | exact HB.out))) : w.heap.size ≤ gb101)); have n3_ := Aside0.mk ((by rw [hg]; exact (below_size (by repeat (first | (with_reducible first | exact HB.out | apply below_alloc | apply pw_below_drewN | apply below_drew1) | exact HB.out))) : w.heap.size ≤ gb101)); clear HB; have HB := n0_; have BK101 := n1_; have GW101 := n2_; have GE101 := n3_; clear n0_ n1_ n2_ n3_; clear hb hbox hg; have hcz4_0 : w3.cell? ⟨gb101, 0, none⟩ = some (.slice A0_0 l0_0.length c0_0) := (blk_cell BK101.out 0).trans rfl; have hcz4_1 : w3.cell? ⟨gb101, 1, none⟩ = some (.slice A0_1 l0_1.length c0_1) := (blk_cell BK101.out 1).trans rfl; have hcz4_2 : w3.cell? ⟨gb101, 2, none⟩ = some (.bool a0_2) := (blk_cell BK101.out 2).trans rfl; have hcz4_3 : w3.cell? ⟨gb101, 3, none⟩ = some (.int .i64 a0_3) := (blk_cell BK101.out 3).trans rfl; have hcz4_4 : w3.cell? ⟨gb101, 4, none⟩ = some (.bool a0_4) := (blk_cell BK101.out 4).trans rfl; have hcz4_5 : w3.cell? ⟨gb101, 5, none⟩ = some (.int .i64 a0_5) := (blk_cell BK101.out 5).trans rfl; have hcz4_6 : w3.cell? ⟨gb101, 6, none⟩ = some (.int .i64 a0_6) := (blk_cell BK101.out 6).trans rfl; have hcz4_7 : w3.cell? ⟨gb101, 7, none⟩ = some (.int .i64 a0_7) := (blk_cell BK101.out 7).trans rfl; have hcz4_8 : w3.cell? ⟨gb101, 8, none⟩ = some (.int .i64 a0_8) := (blk_cell BK101.out 8).trans rfl; have hcz4_9 : w3.cell? ⟨gb101, 9, none⟩ = some (.int .i64 a0_9) := (blk_cell BK101.out 9).trans rfl; have hcz4_10 : w3.cell? ⟨gb101, 10, none⟩ = some (.slice A0_10 l0_10.length c0_10) := (blk_cell BK101.out 10).trans rfl; have hcz4_11 : w3.cell? ⟨gb101, 11, none⟩ = some (.slice A0_11 l0_11.length c0_11) := (blk_cell BK101.out 11).trans rfl; have hcz4_12 : w3.cell? ⟨gb101, 12, none⟩ = some (.bool a0_12) := (blk_cell BK101.out 12).trans rfl; have hcz4_13 : w3.cell? ⟨gb101, 13, none⟩ = some (.slice A0_13 l0_13.length c0_13) := (blk_cell BK101.out 13).trans rfl; have hcz4_14 : w3.cell? ⟨gb101, 14, none⟩ = some (.bool a0_14) := (blk_cell BK101.out 14).trans rfl; have hcz4_15 : w3.cell? ⟨gb101, 15, none⟩ = some (.int .i64 a0_15) := (blk_cell BK101.out 15).trans rfl; have hcz4_16 : w3.cell? ⟨gb101, 16, none⟩ = some (.int .i64 a0_16) := (blk_cell BK101.out 16).trans rfl; have hcz4_17 : w3.cell? ⟨gb101, 17, none⟩ = some (.int .i64 a0_17) := (blk_cell BK101.out 17).trans rfl; have hcz4_18 : w3.cell? ⟨gb101, 18, none⟩ = some (.int .i64 a0_18) := (blk_cell BK101.out 18).trans rfl; have hcz4_19 : w3.cell? ⟨gb101, 19, none⟩ = some (.int .i64 a0_19) := (blk_cell BK101.out 19).trans rfl; have hcz4_20 : w3.cell? ⟨gb101, 20, none⟩ = some (.bool a0_20) := (blk_cell BK101.out 20).trans rfl; have hcz4_21 : w3.cell? ⟨gb101, 21, none⟩ = some (.bool a0_21) := (blk_cell BK101.out 21).trans rfl; have hcz4_22 : w3.cell? ⟨gb101, 22, none⟩ = some (.bool a0_22) := (blk_cell BK101.out 22).trans rfl; have hcz4_23 : w3.cell? ⟨gb101, 23, none⟩ = some (.slice A0_23 l0_23.length c0_23) := (blk_cell BK101.out 23).trans rfl; have hcz4_24 : w3.cell? ⟨gb101, 24, none⟩ = some (.slice A0_24 l0_24.length c0_24) := (blk_cell BK101.out 24).trans rfl; have hcz4_25 : w3.cell? ⟨gb101, 25, none⟩ = some (.slice A0_25 l0_25.length c0_25) := (blk_cell BK101.out 25).trans rfl; have hcz4_26 : w3.cell? ⟨gb101, 26, none⟩ = some (.slice A0_26 l0_26.length c0_26) := (blk_cell BK101.out 26).trans rfl; have hfz4_0 := blk_frozen BK101.out 0; have hfz4_1 := blk_frozen BK101.out 1; have hfz4_2 := blk_frozen BK101.out 2; have hfz4_3 := blk_frozen BK101.out 3; have hfz4_4 := blk_frozen BK101.out 4; have hfz4_5 := blk_frozen BK101.out 5; have hfz4_6 := blk_frozen BK101.out 6; have hfz4_7 := blk_frozen BK101.out 7; have hfz4_8 := blk_frozen BK101.out 8; have hfz4_9 := blk_frozen BK101.out 9; have hfz4_10 := blk_frozen BK101.out 10; have hfz4_11 := blk_frozen BK101.out 11; have hfz4_12 := blk_frozen BK101.out 12; have hfz4_13 := blk_frozen BK101.out 13; have hfz4_14 := blk_frozen BK101.out 14; have hfz4_15 := blk_frozen BK101.out 15; have hfz4_16 := blk_frozen BK101.out 16; have hfz4_17 := blk_frozen BK101.out 17; have hfz4_18 := blk_frozen BK101.out 18; have hfz4_19 := blk_frozen BK101.out 19; have hfz4_20 := blk_frozen BK101.out 20; have hfz4_21 := blk_frozen BK101.out 21; have hfz4_22 := blk_frozen BK101.out 22; have hfz4_23 := blk_frozen BK101.out 23; have hfz4_24 := blk_frozen BK101.out 24; have hfz4_25 := blk_frozen BK101.out 25; have hfz4_26 := blk_frozen BK101.out 26)); go_upto_region 2 with (first | ((with_reducible refine gate_dst (N := 1) rfl ?_); (try (refine gate_guard (by rfl) ?_; dsimp only)); refine box_event ?hg (N := 1) ?hd (cs := #[.slice A0_0 l0_0.length c0_0, .slice A0_1 l0_1.length c0_1, .bool a0_2, .int .i64 a0_3, .bool a0_4, .int .i64 a0_5, .int .i64 a0_6, .int .i64 a0_7, .int .i64 a0_8, .int .i64 a0_9, .slice A0_10 l0_10.length c0_10, .slice A0_11 l0_11.length c0_11, .bool a0_12, .slice A0_13 l0_13.length c0_13, .bool a0_14, .int .i64 a0_15, .int .i64 a0_16, .int .i64 a0_17, .int .i64 a0_18, .int .i64 a0_19, .bool a0_20, .bool a0_21, .bool a0_22, .slice A0_23 l0_23.length c0_23, .slice A0_24 l0_24.length c0_24, .slice A0_25 l0_25.length c0_25, .slice A0_26 l0_26.length c0_26]) (t := 34) ?hr ?_; (case hd => rfl); (case hg => rfl); (case hr => first | (go_simp; done) | (go_simp; rfl)); intro gb101 hg w3 hbox hb; have n0_ := Aside0.mk (below_step (by repeat (first | (with_reducible first | exact HB.out | apply below_alloc | apply pw_below_drewN | apply below_drew1) | exact HB.out)) hb); have n1_ := Aside0.mk (hbox); have n2_ := Aside0.mk ((by rw [hg]; exact (below_size (by repeat (first | (with_reducible first | exact HB.out | apply below_alloc | apply pw_below_drewN | apply below_drew1) | exact HB.out))) : w.heap.size ≤ gb101)); have n3_ := Aside0.mk ((by rw [hg]; exact (below_size (by repeat (first | (with_reducible first | exact HB.out | apply below_alloc | apply pw_below_drewN | apply below_drew1) | exact HB.out))) : w.heap.size ≤ gb101)); clear HB; have HB := n0_; have BK101 := n1_; have GW101 := n2_; have GE101 := n3_; clear n0_ n1_ n2_ n3_; clear hb hbox hg; have hcz4_0 : w3.cell? ⟨gb101, 0, none⟩ = some (.slice A0_0 l0_0.length c0_0) := (blk_cell BK101.out 0).trans rfl; have hcz4_1 : w3.cell? ⟨gb101, 1, none⟩ = some (.slice A0_1 l0_1.length c0_1) := (blk_cell BK101.out 1).trans rfl; have hcz4_2 : w3.cell? ⟨gb101, 2, none⟩ = some (.bool a0_2) := (blk_cell BK101.out 2).trans rfl; have hcz4_3 : w3.cell? ⟨gb101, 3, none⟩ = some (.int .i64 a0_3) := (blk_cell BK101.out 3).trans rfl; have hcz4_4 : w3.cell? ⟨gb101, 4, none⟩ = some (.bool a0_4) := (blk_cell BK101.out 4).trans rfl; have hcz4_5 : w3.cell? ⟨gb101, 5, none⟩ = some (.int .i64 a0_5) := (blk_cell BK101.out 5).trans rfl; have hcz4_6 : w3.cell? ⟨gb101, 6, none⟩ = some (.int .i64 a0_6) := (blk_cell BK101.out 6).trans rfl; have hcz4_7 : w3.cell? ⟨gb101, 7, none⟩ = some (.int .i64 a0_7) := (blk_cell BK101.out 7).trans rfl; have hcz4_8 : w3.cell? ⟨gb101, 8, none⟩ = some (.int .i64 a0_8) := (blk_cell BK101.out 8).trans rfl; have hcz4_9 : w3.cell? ⟨gb101, 9, none⟩ = some (.int .i64 a0_9) := (blk_cell BK101.out 9).trans rfl; have hcz4_10 : w3.cell? ⟨gb101, 10, none⟩ = some (.slice A0_10 l0_10.length c0_10) := (blk_cell BK101.out 10).trans rfl; have hcz4_11 : w3.cell? ⟨gb101, 11, none⟩ = some (.slice A0_11 l0_11.length c0_11) := (blk_cell BK101.out 11).trans rfl; have hcz4_12 : w3.cell? ⟨gb101, 12, none⟩ = some (.bool a0_12) := (blk_cell BK101.out 12).trans rfl; have hcz4_13 : w3.cell? ⟨gb101, 13, none⟩ = some (.slice A0_13 l0_13.length c0_13) := (blk_cell BK101.out 13).trans rfl; have hcz4_14 : w3.cell? ⟨gb101, 14, none⟩ = some (.bool a0_14) := (blk_cell BK101.out 14).trans rfl; have hcz4_15 : w3.cell? ⟨gb101, 15, none⟩ = some (.int .i64 a0_15) := (blk_cell BK101.out 15).trans rfl; have hcz4_16 : w3.cell? ⟨gb101, 16, none⟩ = some (.int .i64 a0_16) := (blk_cell BK101.out 16).trans rfl; have hcz4_17 : w3.cell? ⟨gb101, 17, none⟩ = some (.int .i64 a0_17) := (blk_cell BK101.out 17).trans rfl; have hcz4_18 : w3.cell? ⟨gb101, 18, none⟩ = some (.int .i64 a0_18) := (blk_cell BK101.out 18).trans rfl; have hcz4_19 : w3.cell? ⟨gb101, 19, none⟩ = some (.int .i64 a0_19) := (blk_cell BK101.out 19).trans rfl; have hcz4_20 : w3.cell? ⟨gb101, 20, none⟩ = some (.bool a0_20) := (blk_cell BK101.out 20).trans rfl; have hcz4_21 : w3.cell? ⟨gb101, 21, none⟩ = some (.bool a0_21) := (blk_cell BK101.out 21).trans rfl; have hcz4_22 : w3.cell? ⟨gb101, 22, none⟩ = some (.bool a0_22) := (blk_cell BK101.out 22).trans rfl; have hcz4_23 : w3.cell? ⟨gb101, 23, none⟩ = some (.slice A0_23 l0_23.length c0_23) := (blk_cell BK101.out 23).trans rfl; have hcz4_24 : w3.cell? ⟨gb101, 24, none⟩ = some (.slice A0_24 l0_24.length c0_24) := (blk_cell BK101.out 24).trans rfl; have hcz4_25 : w3.cell? ⟨gb101, 25, none⟩ = some (.slice A0_25 l0_25.length c0_25) := (blk_cell BK101.out 25).trans rfl; have hcz4_26 : w3.cell? ⟨gb101, 26, none⟩ = some (.slice A0_26 l0_26.length c0_26) := (blk_cell BK101.out 26).trans rfl; have hfz4_0 := blk_frozen BK101.out 0; have hfz4_1 := blk_frozen BK101.out 1; have hfz4_2 := blk_frozen BK101.out 2; have hfz4_3 := blk_frozen BK101.out 3; have hfz4_4 := blk_frozen BK101.out 4; have hfz4_5 := blk_frozen BK101.out 5; have hfz4_6 := blk_frozen BK101.out 6; have hfz4_7 := blk_frozen BK101.out 7; have hfz4_8 := blk_frozen BK101.out 8; have hfz4_9 := blk_frozen BK101.out 9; have hfz4_10 := blk_frozen BK101.out 10; have hfz4_11 := blk_frozen BK101.out 11; have hfz4_12 := blk_frozen BK101.out 12; have hfz4_13 := blk_frozen BK101.out 13; have hfz4_14 := blk_frozen BK101.out 14; have hfz4_15 := blk_frozen BK101.out 15; have hfz4_16 := blk_frozen BK101.out 16; have hfz4_17 := blk_frozen BK101.out 17; have hfz4_18 := blk_frozen BK101.out 18; have hfz4_19 := blk_frozen BK101.out 19; have hfz4_20 := blk_frozen BK101.out 20; have hfz4_21 := blk_frozen BK101.out 21; have hfz4_22 := blk_frozen BK101.out 22; have hfz4_23 := blk_frozen BK101.out 23; have hfz4_24 := blk_frozen BK101.out 24; have hfz4_25 := blk_frozen BK101.out 25; have hfz4_26 := blk_frozen BK101.out 26)))
  (try simp only [Act.put, List.setIfInBounds_toArray, List.set_cons_zero, List.set_cons_succ])
  go_cut [51] (fun v51 wc => ∃ (kq : Nat) (x51_1 : Bool), v51 = .bool x51_1 ∧ Aside0 (palinoderef20_Great.j0 kq (wrap64 ((wrap64 ((wrap64 ((wrap64 ((wrap64 ((wrap64 ((l0_0.length : Int) + (l0_1.length : Int))) + (l0_10.length : Int))) + (l0_11.length : Int))) + (l0_13.length : Int))) + (l0_23.length : Int))) + (l0_26.length : Int))) x51_1 l0_0 l0_1 a0_2 a0_3 a0_4 a0_5 a0_6 a0_7 a0_8 a0_9 l0_10 l0_11 a0_12 l0_13 a0_14 a0_15 a0_16 a0_17 a0_18 a0_19 a0_20 a0_21 a0_22 l0_23 l0_24 l0_25 l0_26 = some r) ∧ Aside0 (kq ≤ k) ∧ Aside0 (wc.heap[gb101]? = some (.cells #[(.slice A0_0 l0_0.length c0_0), (.slice A0_1 l0_1.length c0_1), .bool a0_2, .int .i64 a0_3, .bool a0_4, .int .i64 a0_5, .int .i64 a0_6, .int .i64 a0_7, .int .i64 a0_8, .int .i64 a0_9, (.slice A0_10 l0_10.length c0_10), (.slice A0_11 l0_11.length c0_11), .bool a0_12, (.slice A0_13 l0_13.length c0_13), .bool a0_14, .int .i64 a0_15, .int .i64 a0_16, .int .i64 a0_17, .int .i64 a0_18, .int .i64 a0_19, .bool a0_20, .bool a0_21, .bool a0_22, (.slice A0_23 l0_23.length c0_23), (.slice A0_24 l0_24.length c0_24), (.slice A0_25 l0_25.length c0_25), (.slice A0_26 l0_26.length c0_26)] 34 (0, 0))) ∧ Aside0 (Below w.heap.size w wc))
  case first =>
    have H := HC2.out
    clear HC2
    by_cases c5 : (wrap64 ((wrap64 ((wrap64 ((wrap64 ((wrap64 ((wrap64 ((l0_0.length : Int) + (l0_1.length : Int))) + (l0_10.length : Int))) + (l0_11.length : Int))) + (l0_13.length : Int))) + (l0_23.length : Int))) + (l0_26.length : Int))) > 1000
    · rw [if_pos c5] at H
      have c5b0 : decide (1000 < (wrap64 ((wrap64 ((wrap64 ((wrap64 ((wrap64 ((wrap64 ((l0_0.length : Int) + (l0_1.length : Int))) + (l0_10.length : Int))) + (l0_11.length : Int))) + (l0_13.length : Int))) + (l0_23.length : Int))) + (l0_26.length : Int)))) = true := decide_eq_true c5
      clear c5
      (first | rw [c5b0] | (simp only [i64_w, i32_w]; rw [c5b0]) | skip)
      have H' := Aside0.mk H
      clear H
      go_wp2
      repeat (go_quiet (fail); try go_wp2)
      go_meet
      case rel => exact ⟨_, (true), (by first | rfl | (simp; done) | (simp [*]; done)), H', ⟨by first | omega | exact Nat.le_refl _⟩, ⟨by (with_reducible repeat (first | refine blk_drewN ?_ _ | refine blk_drew ?_ | refine blk_alloc ?_ _)); exact BK101.out⟩, ⟨by repeat (first | (with_reducible first | exact HB.out | apply below_alloc | apply pw_below_drewN | apply below_drew1 | refine below_set ?_ GE101.out) | exact HB.out)⟩⟩
    · rw [if_neg c5] at H
      have c5b0 : decide (1000 < (wrap64 ((wrap64 ((wrap64 ((wrap64 ((wrap64 ((wrap64 ((l0_0.length : Int) + (l0_1.length : Int))) + (l0_10.length : Int))) + (l0_11.length : Int))) + (l0_13.length : Int))) + (l0_23.length : Int))) + (l0_26.length : Int)))) = false := decide_eq_false c5
      clear c5
      (first | rw [c5b0] | (simp only [i64_w, i32_w]; rw [c5b0]) | skip)
      by_cases c6 : (l0_24.length : Int) > 40
      · rw [if_pos c6] at H
        have c6b0 : decide (40 < (l0_24.length : Int)) = true := decide_eq_true c6
        have c6b1 : decide (40 < l0_24.length) = true := decide_eq_true (by omega)
        clear c6
        have H' := Aside0.mk H
        clear H
        have hcz7_0 : w3.cell? ⟨gb101, 0, none⟩ = some (.slice A0_0 l0_0.length c0_0) := (blk_cell BK101.out 0).trans rfl
        have hcz7_1 : w3.cell? ⟨gb101, 1, none⟩ = some (.slice A0_1 l0_1.length c0_1) := (blk_cell BK101.out 1).trans rfl
        have hcz7_2 : w3.cell? ⟨gb101, 2, none⟩ = some (.bool a0_2) := (blk_cell BK101.out 2).trans rfl
        have hcz7_3 : w3.cell? ⟨gb101, 3, none⟩ = some (.int .i64 a0_3) := (blk_cell BK101.out 3).trans rfl
        have hcz7_4 : w3.cell? ⟨gb101, 4, none⟩ = some (.bool a0_4) := (blk_cell BK101.out 4).trans rfl
        have hcz7_5 : w3.cell? ⟨gb101, 5, none⟩ = some (.int .i64 a0_5) := (blk_cell BK101.out 5).trans rfl
        have hcz7_6 : w3.cell? ⟨gb101, 6, none⟩ = some (.int .i64 a0_6) := (blk_cell BK101.out 6).trans rfl
        have hcz7_7 : w3.cell? ⟨gb101, 7, none⟩ = some (.int .i64 a0_7) := (blk_cell BK101.out 7).trans rfl
        have hcz7_8 : w3.cell? ⟨gb101, 8, none⟩ = some (.int .i64 a0_8) := (blk_cell BK101.out 8).trans rfl
        have hcz7_9 : w3.cell? ⟨gb101, 9, none⟩ = some (.int .i64 a0_9) := (blk_cell BK101.out 9).trans rfl
        have hcz7_10 : w3.cell? ⟨gb101, 10, none⟩ = some (.slice A0_10 l0_10.length c0_10) := (blk_cell BK101.out 10).trans rfl
        have hcz7_11 : w3.cell? ⟨gb101, 11, none⟩ = some (.slice A0_11 l0_11.length c0_11) := (blk_cell BK101.out 11).trans rfl
        have hcz7_12 : w3.cell? ⟨gb101, 12, none⟩ = some (.bool a0_12) := (blk_cell BK101.out 12).trans rfl
        have hcz7_13 : w3.cell? ⟨gb101, 13, none⟩ = some (.slice A0_13 l0_13.length c0_13) := (blk_cell BK101.out 13).trans rfl
        have hcz7_14 : w3.cell? ⟨gb101, 14, none⟩ = some (.bool a0_14) := (blk_cell BK101.out 14).trans rfl
        have hcz7_15 : w3.cell? ⟨gb101, 15, none⟩ = some (.int .i64 a0_15) := (blk_cell BK101.out 15).trans rfl
        have hcz7_16 : w3.cell? ⟨gb101, 16, none⟩ = some (.int .i64 a0_16) := (blk_cell BK101.out 16).trans rfl
        have hcz7_17 : w3.cell? ⟨gb101, 17, none⟩ = some (.int .i64 a0_17) := (blk_cell BK101.out 17).trans rfl
        have hcz7_18 : w3.cell? ⟨gb101, 18, none⟩ = some (.int .i64 a0_18) := (blk_cell BK101.out 18).trans rfl
        have hcz7_19 : w3.cell? ⟨gb101, 19, none⟩ = some (.int .i64 a0_19) := (blk_cell BK101.out 19).trans rfl
        have hcz7_20 : w3.cell? ⟨gb101, 20, none⟩ = some (.bool a0_20) := (blk_cell BK101.out 20).trans rfl
        have hcz7_21 : w3.cell? ⟨gb101, 21, none⟩ = some (.bool a0_21) := (blk_cell BK101.out 21).trans rfl
        have hcz7_22 : w3.cell? ⟨gb101, 22, none⟩ = some (.bool a0_22) := (blk_cell BK101.out 22).trans rfl
        have hcz7_23 : w3.cell? ⟨gb101, 23, none⟩ = some (.slice A0_23 l0_23.length c0_23) := (blk_cell BK101.out 23).trans rfl
        have hcz7_24 : w3.cell? ⟨gb101, 24, none⟩ = some (.slice A0_24 l0_24.length c0_24) := (blk_cell BK101.out 24).trans rfl
        have hcz7_25 : w3.cell? ⟨gb101, 25, none⟩ = some (.slice A0_25 l0_25.length c0_25) := (blk_cell BK101.out 25).trans rfl
        have hcz7_26 : w3.cell? ⟨gb101, 26, none⟩ = some (.slice A0_26 l0_26.length c0_26) := (blk_cell BK101.out 26).trans rfl
        have hfz7_0 := blk_frozen BK101.out 0
        have hfz7_1 := blk_frozen BK101.out 1
        have hfz7_2 := blk_frozen BK101.out 2
        have hfz7_3 := blk_frozen BK101.out 3
        have hfz7_4 := blk_frozen BK101.out 4
        have hfz7_5 := blk_frozen BK101.out 5
        have hfz7_6 := blk_frozen BK101.out 6
        have hfz7_7 := blk_frozen BK101.out 7
        have hfz7_8 := blk_frozen BK101.out 8
        have hfz7_9 := blk_frozen BK101.out 9
        have hfz7_10 := blk_frozen BK101.out 10
        have hfz7_11 := blk_frozen BK101.out 11
        have hfz7_12 := blk_frozen BK101.out 12
        have hfz7_13 := blk_frozen BK101.out 13
        have hfz7_14 := blk_frozen BK101.out 14
        have hfz7_15 := blk_frozen BK101.out 15
        have hfz7_16 := blk_frozen BK101.out 16
        have hfz7_17 := blk_frozen BK101.out 17
        have hfz7_18 := blk_frozen BK101.out 18
        have hfz7_19 := blk_frozen BK101.out 19
        have hfz7_20 := blk_frozen BK101.out 20
        have hfz7_21 := blk_frozen BK101.out 21
        have hfz7_22 := blk_frozen BK101.out 22
        have hfz7_23 := blk_frozen BK101.out 23
        have hfz7_24 := blk_frozen BK101.out 24
        have hfz7_25 := blk_frozen BK101.out 25
        have hfz7_26 := blk_frozen BK101.out 26
        go_wp2
        repeat (go_quiet (fail); try go_wp2)
        go_meet
        case rel => exact ⟨_, (true), (by first | rfl | (simp; done) | (simp [*]; done)), H', ⟨by first | omega | exact Nat.le_refl _⟩, ⟨by (with_reducible repeat (first | refine blk_drewN ?_ _ | refine blk_drew ?_ | refine blk_alloc ?_ _)); exact BK101.out⟩, ⟨by repeat (first | (with_reducible first | exact HB.out | apply below_alloc | apply pw_below_drewN | apply below_drew1 | refine below_set ?_ GE101.out) | exact HB.out)⟩⟩
      · rw [if_neg c6] at H
        have c6b0 : decide (40 < (l0_24.length : Int)) = false := decide_eq_false c6
        have c6b1 : decide (40 < l0_24.length) = false := decide_eq_false (by omega)
        clear c6
        have H' := Aside0.mk H
        clear H
        have hcz8_0 : w3.cell? ⟨gb101, 0, none⟩ = some (.slice A0_0 l0_0.length c0_0) := (blk_cell BK101.out 0).trans rfl
        have hcz8_1 : w3.cell? ⟨gb101, 1, none⟩ = some (.slice A0_1 l0_1.length c0_1) := (blk_cell BK101.out 1).trans rfl
        have hcz8_2 : w3.cell? ⟨gb101, 2, none⟩ = some (.bool a0_2) := (blk_cell BK101.out 2).trans rfl
        have hcz8_3 : w3.cell? ⟨gb101, 3, none⟩ = some (.int .i64 a0_3) := (blk_cell BK101.out 3).trans rfl
        have hcz8_4 : w3.cell? ⟨gb101, 4, none⟩ = some (.bool a0_4) := (blk_cell BK101.out 4).trans rfl
        have hcz8_5 : w3.cell? ⟨gb101, 5, none⟩ = some (.int .i64 a0_5) := (blk_cell BK101.out 5).trans rfl
        have hcz8_6 : w3.cell? ⟨gb101, 6, none⟩ = some (.int .i64 a0_6) := (blk_cell BK101.out 6).trans rfl
        have hcz8_7 : w3.cell? ⟨gb101, 7, none⟩ = some (.int .i64 a0_7) := (blk_cell BK101.out 7).trans rfl
        have hcz8_8 : w3.cell? ⟨gb101, 8, none⟩ = some (.int .i64 a0_8) := (blk_cell BK101.out 8).trans rfl
        have hcz8_9 : w3.cell? ⟨gb101, 9, none⟩ = some (.int .i64 a0_9) := (blk_cell BK101.out 9).trans rfl
        have hcz8_10 : w3.cell? ⟨gb101, 10, none⟩ = some (.slice A0_10 l0_10.length c0_10) := (blk_cell BK101.out 10).trans rfl
        have hcz8_11 : w3.cell? ⟨gb101, 11, none⟩ = some (.slice A0_11 l0_11.length c0_11) := (blk_cell BK101.out 11).trans rfl
        have hcz8_12 : w3.cell? ⟨gb101, 12, none⟩ = some (.bool a0_12) := (blk_cell BK101.out 12).trans rfl
        have hcz8_13 : w3.cell? ⟨gb101, 13, none⟩ = some (.slice A0_13 l0_13.length c0_13) := (blk_cell BK101.out 13).trans rfl
        have hcz8_14 : w3.cell? ⟨gb101, 14, none⟩ = some (.bool a0_14) := (blk_cell BK101.out 14).trans rfl
        have hcz8_15 : w3.cell? ⟨gb101, 15, none⟩ = some (.int .i64 a0_15) := (blk_cell BK101.out 15).trans rfl
        have hcz8_16 : w3.cell? ⟨gb101, 16, none⟩ = some (.int .i64 a0_16) := (blk_cell BK101.out 16).trans rfl
        have hcz8_17 : w3.cell? ⟨gb101, 17, none⟩ = some (.int .i64 a0_17) := (blk_cell BK101.out 17).trans rfl
        have hcz8_18 : w3.cell? ⟨gb101, 18, none⟩ = some (.int .i64 a0_18) := (blk_cell BK101.out 18).trans rfl
        have hcz8_19 : w3.cell? ⟨gb101, 19, none⟩ = some (.int .i64 a0_19) := (blk_cell BK101.out 19).trans rfl
        have hcz8_20 : w3.cell? ⟨gb101, 20, none⟩ = some (.bool a0_20) := (blk_cell BK101.out 20).trans rfl
        have hcz8_21 : w3.cell? ⟨gb101, 21, none⟩ = some (.bool a0_21) := (blk_cell BK101.out 21).trans rfl
        have hcz8_22 : w3.cell? ⟨gb101, 22, none⟩ = some (.bool a0_22) := (blk_cell BK101.out 22).trans rfl
        have hcz8_23 : w3.cell? ⟨gb101, 23, none⟩ = some (.slice A0_23 l0_23.length c0_23) := (blk_cell BK101.out 23).trans rfl
        have hcz8_24 : w3.cell? ⟨gb101, 24, none⟩ = some (.slice A0_24 l0_24.length c0_24) := (blk_cell BK101.out 24).trans rfl
        have hcz8_25 : w3.cell? ⟨gb101, 25, none⟩ = some (.slice A0_25 l0_25.length c0_25) := (blk_cell BK101.out 25).trans rfl
        have hcz8_26 : w3.cell? ⟨gb101, 26, none⟩ = some (.slice A0_26 l0_26.length c0_26) := (blk_cell BK101.out 26).trans rfl
        have hfz8_0 := blk_frozen BK101.out 0
        have hfz8_1 := blk_frozen BK101.out 1
        have hfz8_2 := blk_frozen BK101.out 2
        have hfz8_3 := blk_frozen BK101.out 3
        have hfz8_4 := blk_frozen BK101.out 4
        have hfz8_5 := blk_frozen BK101.out 5
        have hfz8_6 := blk_frozen BK101.out 6
        have hfz8_7 := blk_frozen BK101.out 7
        have hfz8_8 := blk_frozen BK101.out 8
        have hfz8_9 := blk_frozen BK101.out 9
        have hfz8_10 := blk_frozen BK101.out 10
        have hfz8_11 := blk_frozen BK101.out 11
        have hfz8_12 := blk_frozen BK101.out 12
        have hfz8_13 := blk_frozen BK101.out 13
        have hfz8_14 := blk_frozen BK101.out 14
        have hfz8_15 := blk_frozen BK101.out 15
        have hfz8_16 := blk_frozen BK101.out 16
        have hfz8_17 := blk_frozen BK101.out 17
        have hfz8_18 := blk_frozen BK101.out 18
        have hfz8_19 := blk_frozen BK101.out 19
        have hfz8_20 := blk_frozen BK101.out 20
        have hfz8_21 := blk_frozen BK101.out 21
        have hfz8_22 := blk_frozen BK101.out 22
        have hfz8_23 := blk_frozen BK101.out 23
        have hfz8_24 := blk_frozen BK101.out 24
        have hfz8_25 := blk_frozen BK101.out 25
        have hfz8_26 := blk_frozen BK101.out 26
        go_wp2
        repeat (go_quiet (fail); try go_wp2)
        go_meet
        case rel => exact ⟨_, (decide ((l0_25.length : Int) > 20)), (by first | rfl | (simp; done) | (simp [*]; done)), H', ⟨by first | omega | exact Nat.le_refl _⟩, ⟨by (with_reducible repeat (first | refine blk_drewN ?_ _ | refine blk_drew ?_ | refine blk_alloc ?_ _)); exact BK101.out⟩, ⟨by repeat (first | (with_reducible first | exact HB.out | apply below_alloc | apply pw_below_drewN | apply below_drew1 | refine below_set ?_ GE101.out) | exact HB.out)⟩⟩
  case rest =>
    clear HC2
    try clear p2
    try clear c4
    try clear c5
    try clear c5b0
    try clear c6
    try clear c6b0
    try clear c6b1
    try clear p6
    try clear hcz4_0
    try clear hcz4_1
    try clear hcz4_10
    try clear hcz4_11
    try clear hcz4_12
    try clear hcz4_13
    try clear hcz4_14
    try clear hcz4_15
    try clear hcz4_16
    try clear hcz4_17
    try clear hcz4_18
    try clear hcz4_19
    try clear hcz4_2
    try clear hcz4_20
    try clear hcz4_21
    try clear hcz4_22
    try clear hcz4_23
    try clear hcz4_24
    try clear hcz4_25
    try clear hcz4_26
    try clear hcz4_3
    try clear hcz4_4
    try clear hcz4_5
    try clear hcz4_6
    try clear hcz4_7
    try clear hcz4_8
    try clear hcz4_9
    try clear hcz7_0
    try clear hcz7_1
    try clear hcz7_10
    try clear hcz7_11
    try clear hcz7_12
    try clear hcz7_13
    try clear hcz7_14
    try clear hcz7_15
    try clear hcz7_16
    try clear hcz7_17
    try clear hcz7_18
    try clear hcz7_19
    try clear hcz7_2
    try clear hcz7_20
    try clear hcz7_21
    try clear hcz7_22
    try clear hcz7_23
    try clear hcz7_24
    try clear hcz7_25
    try clear hcz7_26
    try clear hcz7_3
    try clear hcz7_4
    try clear hcz7_5
    try clear hcz7_6
    try clear hcz7_7
    try clear hcz7_8
    try clear hcz7_9
    try clear hcz8_0
    try clear hcz8_1
    try clear hcz8_10
    try clear hcz8_11
    try clear hcz8_12
    try clear hcz8_13
    try clear hcz8_14
    try clear hcz8_15
    try clear hcz8_16
    try clear hcz8_17
    try clear hcz8_18
    try clear hcz8_19
    try clear hcz8_2
    try clear hcz8_20
    try clear hcz8_21
    try clear hcz8_22
    try clear hcz8_23
    try clear hcz8_24
    try clear hcz8_25
    try clear hcz8_26
    try clear hcz8_3
    try clear hcz8_4
    try clear hcz8_5
    try clear hcz8_6
    try clear hcz8_7
    try clear hcz8_8
    try clear hcz8_9
    try clear hfz4_0
    try clear hfz4_1
    try clear hfz4_10
    try clear hfz4_11
    try clear hfz4_12
    try clear hfz4_13
    try clear hfz4_14
    try clear hfz4_15
    try clear hfz4_16
    try clear hfz4_17
    try clear hfz4_18
    try clear hfz4_19
    try clear hfz4_2
    try clear hfz4_20
    try clear hfz4_21
    try clear hfz4_22
    try clear hfz4_23
    try clear hfz4_24
    try clear hfz4_25
    try clear hfz4_26
    try clear hfz4_3
    try clear hfz4_4
    try clear hfz4_5
    try clear hfz4_6
    try clear hfz4_7
    try clear hfz4_8
    try clear hfz4_9
    try clear hfz7_0
    try clear hfz7_1
    try clear hfz7_10
    try clear hfz7_11
    try clear hfz7_12
    try clear hfz7_13
    try clear hfz7_14
    try clear hfz7_15
    try clear hfz7_16
    try clear hfz7_17
    try clear hfz7_18
    try clear hfz7_19
    try clear hfz7_2
    try clear hfz7_20
    try clear hfz7_21
    try clear hfz7_22
    try clear hfz7_23
    try clear hfz7_24
    try clear hfz7_25
    try clear hfz7_26
    try clear hfz7_3
    try clear hfz7_4
    try clear hfz7_5
    try clear hfz7_6
    try clear hfz7_7
    try clear hfz7_8
    try clear hfz7_9
    try clear hfz8_0
    try clear hfz8_1
    try clear hfz8_10
    try clear hfz8_11
    try clear hfz8_12
    try clear hfz8_13
    try clear hfz8_14
    try clear hfz8_15
    try clear hfz8_16
    try clear hfz8_17
    try clear hfz8_18
    try clear hfz8_19
    try clear hfz8_2
    try clear hfz8_20
    try clear hfz8_21
    try clear hfz8_22
    try clear hfz8_23
    try clear hfz8_24
    try clear hfz8_25
    try clear hfz8_26
    try clear hfz8_3
    try clear hfz8_4
    try clear hfz8_5
    try clear hfz8_6
    try clear hfz8_7
    try clear hfz8_8
    try clear hfz8_9
    obtain ⟨kq, x51_1, rfl, HA, HJ1, BK101, HB⟩ := hcut
    cases kq with
    | zero => exact absurd HA.out (by simp [palinoderef20_Great.j0])
    | succ kj1 =>
      have H := HA.out
      clear HA
      simp only [palinoderef20_Great.j0] at H
      by_cases c9 : x51_1 = true
      · subst c9
        have H1 : (some true) = some r := by rw [if_pos rfl] at H; exact H
        clear H
        have H := H1
        clear H1
        obtain rfl := Option.some.inj H
        go_wp2
        repeat (go_quiet (fail); try go_wp2)
        go_ret
        exact ⟨by first | rfl | (simp [errW_none, errW_some] <;> rfl) | (simp [*, errW_none, errW_some] <;> rfl), by repeat (first | (with_reducible first | exact HB.out | apply below_alloc | apply pw_below_drewN | apply below_drew1 | refine below_set ?_ GE101.out) | exact HB.out)⟩
      · replace c9 := Bool.eq_false_iff.mpr c9
        subst c9
        have H1 : (palinoderef20_Great.l0 kj1 (wrap64 ((wrap64 ((wrap64 ((wrap64 ((wrap64 ((wrap64 ((l0_0.length : Int) + (l0_1.length : Int))) + (l0_10.length : Int))) + (l0_11.length : Int))) + (l0_13.length : Int))) + (l0_23.length : Int))) + (l0_26.length : Int))) 0 l0_0 l0_1 a0_2 a0_3 a0_4 a0_5 a0_6 a0_7 a0_8 a0_9 l0_10 l0_11 a0_12 l0_13 a0_14 a0_15 a0_16 a0_17 a0_18 a0_19 a0_20 a0_21 a0_22 l0_23 l0_24 l0_25 l0_26) = some r := by rw [if_neg (show ¬ (false = true) by decide)] at H; exact H
        clear H
        have H := H1
        clear H1
        have H' := Aside0.mk H
        clear H
        go_wp2
        repeat (go_quiet (fail); try go_wp2)
        go_loopg [3, 4] kj1 (fun kq v3 v4 w' => ∃ (x3_2 : Int) (x4_2 : Int), v3 = .int .i64 x3_2 ∧ v4 = .int .i64 x4_2 ∧ Aside0 (palinoderef20_Great.l0 kq x3_2 x4_2 l0_0 l0_1 a0_2 a0_3 a0_4 a0_5 a0_6 a0_7 a0_8 a0_9 l0_10 l0_11 a0_12 l0_13 a0_14 a0_15 a0_16 a0_17 a0_18 a0_19 a0_20 a0_21 a0_22 l0_23 l0_24 l0_25 l0_26 = some r) ∧ Aside0 (kq ≤ kj1) ∧ Aside0 (w'.heap[gb101]? = some (.cells #[(.slice A0_0 l0_0.length c0_0), (.slice A0_1 l0_1.length c0_1), .bool a0_2, .int .i64 a0_3, .bool a0_4, .int .i64 a0_5, .int .i64 a0_6, .int .i64 a0_7, .int .i64 a0_8, .int .i64 a0_9, (.slice A0_10 l0_10.length c0_10), (.slice A0_11 l0_11.length c0_11), .bool a0_12, (.slice A0_13 l0_13.length c0_13), .bool a0_14, .int .i64 a0_15, .int .i64 a0_16, .int .i64 a0_17, .int .i64 a0_18, .int .i64 a0_19, .bool a0_20, .bool a0_21, .bool a0_22, (.slice A0_23 l0_23.length c0_23), (.slice A0_24 l0_24.length c0_24), (.slice A0_25 l0_25.length c0_25), (.slice A0_26 l0_26.length c0_26)] 34 (0, 0))) ∧ Aside0 (Below w.heap.size w w'))
        case atStart => exact ⟨((wrap64 ((wrap64 ((wrap64 ((wrap64 ((wrap64 ((wrap64 ((l0_0.length : Int) + (l0_1.length : Int))) + (l0_10.length : Int))) + (l0_11.length : Int))) + (l0_13.length : Int))) + (l0_23.length : Int))) + (l0_26.length : Int)))), (0), (by first | rfl | (simp; done) | (simp [*]; done)), (by first | rfl | (simp; done) | (simp [*]; done)), H', ⟨Nat.le_refl _⟩, ⟨by (with_reducible repeat (first | refine blk_drewN ?_ _ | refine blk_drew ?_ | refine blk_alloc ?_ _)); exact BK101.out⟩, ⟨by repeat (first | (with_reducible first | exact HB.out | apply below_alloc | apply pw_below_drewN | apply below_drew1 | refine below_set ?_ GE101.out) | exact HB.out)⟩⟩
        case round =>
          clear H'
          try clear p2
          try clear c4
          try clear c5
          try clear c5b0
          try clear c6
          try clear c6b0
          try clear c6b1
          try clear p6
          try clear c9
          try clear hcz4_0
          try clear hcz4_1
          try clear hcz4_10
          try clear hcz4_11
          try clear hcz4_12
          try clear hcz4_13
          try clear hcz4_14
          try clear hcz4_15
          try clear hcz4_16
          try clear hcz4_17
          try clear hcz4_18
          try clear hcz4_19
          try clear hcz4_2
          try clear hcz4_20
          try clear hcz4_21
          try clear hcz4_22
          try clear hcz4_23
          try clear hcz4_24
          try clear hcz4_25
          try clear hcz4_26
          try clear hcz4_3
          try clear hcz4_4
          try clear hcz4_5
          try clear hcz4_6
          try clear hcz4_7
          try clear hcz4_8
          try clear hcz4_9
          try clear hcz7_0
          try clear hcz7_1
          try clear hcz7_10
          try clear hcz7_11
          try clear hcz7_12
          try clear hcz7_13
          try clear hcz7_14
          try clear hcz7_15
          try clear hcz7_16
          try clear hcz7_17
          try clear hcz7_18
          try clear hcz7_19
          try clear hcz7_2
          try clear hcz7_20
          try clear hcz7_21
          try clear hcz7_22
          try clear hcz7_23
          try clear hcz7_24
          try clear hcz7_25
          try clear hcz7_26
          try clear hcz7_3
          try clear hcz7_4
          try clear hcz7_5
          try clear hcz7_6
          try clear hcz7_7
          try clear hcz7_8
          try clear hcz7_9
          try clear hcz8_0
          try clear hcz8_1
          try clear hcz8_10
          try clear hcz8_11
          try clear hcz8_12
          try clear hcz8_13
          try clear hcz8_14
          try clear hcz8_15
          try clear hcz8_16
          try clear hcz8_17
          try clear hcz8_18
          try clear hcz8_19
          try clear hcz8_2
          try clear hcz8_20
          try clear hcz8_21
          try clear hcz8_22
          try clear hcz8_23
          try clear hcz8_24
          try clear hcz8_25
          try clear hcz8_26
          try clear hcz8_3
          try clear hcz8_4
          try clear hcz8_5
          try clear hcz8_6
          try clear hcz8_7
          try clear hcz8_8
          try clear hcz8_9
          try clear hfz4_0
          try clear hfz4_1
          try clear hfz4_10
          try clear hfz4_11
          try clear hfz4_12
          try clear hfz4_13
          try clear hfz4_14
          try clear hfz4_15
          try clear hfz4_16
          try clear hfz4_17
          try clear hfz4_18
          try clear hfz4_19
          try clear hfz4_2
          try clear hfz4_20
          try clear hfz4_21
          try clear hfz4_22
          try clear hfz4_23
          try clear hfz4_24
          try clear hfz4_25
          try clear hfz4_26
          try clear hfz4_3
          try clear hfz4_4
          try clear hfz4_5
          try clear hfz4_6
          try clear hfz4_7
          try clear hfz4_8
          try clear hfz4_9
          try clear hfz7_0
          try clear hfz7_1
          try clear hfz7_10
          try clear hfz7_11
          try clear hfz7_12
          try clear hfz7_13
          try clear hfz7_14
          try clear hfz7_15
          try clear hfz7_16
          try clear hfz7_17
          try clear hfz7_18
          try clear hfz7_19
          try clear hfz7_2
          try clear hfz7_20
          try clear hfz7_21
          try clear hfz7_22
          try clear hfz7_23
          try clear hfz7_24
          try clear hfz7_25
          try clear hfz7_26
          try clear hfz7_3
          try clear hfz7_4
          try clear hfz7_5
          try clear hfz7_6
          try clear hfz7_7
          try clear hfz7_8
          try clear hfz7_9
          try clear hfz8_0
          try clear hfz8_1
          try clear hfz8_10
          try clear hfz8_11
          try clear hfz8_12
          try clear hfz8_13
          try clear hfz8_14
          try clear hfz8_15
          try clear hfz8_16
          try clear hfz8_17
          try clear hfz8_18
          try clear hfz8_19
          try clear hfz8_2
          try clear hfz8_20
          try clear hfz8_21
          try clear hfz8_22
          try clear hfz8_23
          try clear hfz8_24
          try clear hfz8_25
          try clear hfz8_26
          try clear hfz8_3
          try clear hfz8_4
          try clear hfz8_5
          try clear hfz8_6
          try clear hfz8_7
          try clear hfz8_8
          try clear hfz8_9
          try clear p2
          try clear p6
          obtain ⟨x3_2, x4_2, rfl, rfl, HA, HK2, BK101, HB⟩ := hrel
          cases gk with
          | zero => exact absurd HA.out (by simp [palinoderef20_Great.l0])
          | succ k2 =>
            have H := HA.out
            clear HA
            simp only [palinoderef20_Great.l0] at H
            by_cases c10 : x4_2 < (l0_24.length : Int)
            · rw [if_pos c10] at H
              have c10b0 : decide (x4_2 < (l0_24.length : Int)) = true := decide_eq_true c10
              clear c10
              by_cases c11 : 0 ≤ x4_2
              · rw [if_pos c11] at H
                have c11b0 : decide (0 ≤ x4_2) = true := decide_eq_true c11
                clear c11
                have H' := Aside0.mk H
                clear H
                have hcz12_0 : wr.cell? ⟨gb101, 0, none⟩ = some (.slice A0_0 l0_0.length c0_0) := (blk_cell BK101.out 0).trans rfl
                have hcz12_1 : wr.cell? ⟨gb101, 1, none⟩ = some (.slice A0_1 l0_1.length c0_1) := (blk_cell BK101.out 1).trans rfl
                have hcz12_2 : wr.cell? ⟨gb101, 2, none⟩ = some (.bool a0_2) := (blk_cell BK101.out 2).trans rfl
                have hcz12_3 : wr.cell? ⟨gb101, 3, none⟩ = some (.int .i64 a0_3) := (blk_cell BK101.out 3).trans rfl
                have hcz12_4 : wr.cell? ⟨gb101, 4, none⟩ = some (.bool a0_4) := (blk_cell BK101.out 4).trans rfl
                have hcz12_5 : wr.cell? ⟨gb101, 5, none⟩ = some (.int .i64 a0_5) := (blk_cell BK101.out 5).trans rfl
                have hcz12_6 : wr.cell? ⟨gb101, 6, none⟩ = some (.int .i64 a0_6) := (blk_cell BK101.out 6).trans rfl
                have hcz12_7 : wr.cell? ⟨gb101, 7, none⟩ = some (.int .i64 a0_7) := (blk_cell BK101.out 7).trans rfl
                have hcz12_8 : wr.cell? ⟨gb101, 8, none⟩ = some (.int .i64 a0_8) := (blk_cell BK101.out 8).trans rfl
                have hcz12_9 : wr.cell? ⟨gb101, 9, none⟩ = some (.int .i64 a0_9) := (blk_cell BK101.out 9).trans rfl
                have hcz12_10 : wr.cell? ⟨gb101, 10, none⟩ = some (.slice A0_10 l0_10.length c0_10) := (blk_cell BK101.out 10).trans rfl
                have hcz12_11 : wr.cell? ⟨gb101, 11, none⟩ = some (.slice A0_11 l0_11.length c0_11) := (blk_cell BK101.out 11).trans rfl
                have hcz12_12 : wr.cell? ⟨gb101, 12, none⟩ = some (.bool a0_12) := (blk_cell BK101.out 12).trans rfl
                have hcz12_13 : wr.cell? ⟨gb101, 13, none⟩ = some (.slice A0_13 l0_13.length c0_13) := (blk_cell BK101.out 13).trans rfl
                have hcz12_14 : wr.cell? ⟨gb101, 14, none⟩ = some (.bool a0_14) := (blk_cell BK101.out 14).trans rfl
                have hcz12_15 : wr.cell? ⟨gb101, 15, none⟩ = some (.int .i64 a0_15) := (blk_cell BK101.out 15).trans rfl
                have hcz12_16 : wr.cell? ⟨gb101, 16, none⟩ = some (.int .i64 a0_16) := (blk_cell BK101.out 16).trans rfl
                have hcz12_17 : wr.cell? ⟨gb101, 17, none⟩ = some (.int .i64 a0_17) := (blk_cell BK101.out 17).trans rfl
                have hcz12_18 : wr.cell? ⟨gb101, 18, none⟩ = some (.int .i64 a0_18) := (blk_cell BK101.out 18).trans rfl
                have hcz12_19 : wr.cell? ⟨gb101, 19, none⟩ = some (.int .i64 a0_19) := (blk_cell BK101.out 19).trans rfl
                have hcz12_20 : wr.cell? ⟨gb101, 20, none⟩ = some (.bool a0_20) := (blk_cell BK101.out 20).trans rfl
                have hcz12_21 : wr.cell? ⟨gb101, 21, none⟩ = some (.bool a0_21) := (blk_cell BK101.out 21).trans rfl
                have hcz12_22 : wr.cell? ⟨gb101, 22, none⟩ = some (.bool a0_22) := (blk_cell BK101.out 22).trans rfl
                have hcz12_23 : wr.cell? ⟨gb101, 23, none⟩ = some (.slice A0_23 l0_23.length c0_23) := (blk_cell BK101.out 23).trans rfl
                have hcz12_24 : wr.cell? ⟨gb101, 24, none⟩ = some (.slice A0_24 l0_24.length c0_24) := (blk_cell BK101.out 24).trans rfl
                have hcz12_25 : wr.cell? ⟨gb101, 25, none⟩ = some (.slice A0_25 l0_25.length c0_25) := (blk_cell BK101.out 25).trans rfl
                have hcz12_26 : wr.cell? ⟨gb101, 26, none⟩ = some (.slice A0_26 l0_26.length c0_26) := (blk_cell BK101.out 26).trans rfl
                have hfz12_0 := blk_frozen BK101.out 0
                have hfz12_1 := blk_frozen BK101.out 1
                have hfz12_2 := blk_frozen BK101.out 2
                have hfz12_3 := blk_frozen BK101.out 3
                have hfz12_4 := blk_frozen BK101.out 4
                have hfz12_5 := blk_frozen BK101.out 5
                have hfz12_6 := blk_frozen BK101.out 6
                have hfz12_7 := blk_frozen BK101.out 7
                have hfz12_8 := blk_frozen BK101.out 8
                have hfz12_9 := blk_frozen BK101.out 9
                have hfz12_10 := blk_frozen BK101.out 10
                have hfz12_11 := blk_frozen BK101.out 11
                have hfz12_12 := blk_frozen BK101.out 12
                have hfz12_13 := blk_frozen BK101.out 13
                have hfz12_14 := blk_frozen BK101.out 14
                have hfz12_15 := blk_frozen BK101.out 15
                have hfz12_16 := blk_frozen BK101.out 16
                have hfz12_17 := blk_frozen BK101.out 17
                have hfz12_18 := blk_frozen BK101.out 18
                have hfz12_19 := blk_frozen BK101.out 19
                have hfz12_20 := blk_frozen BK101.out 20
                have hfz12_21 := blk_frozen BK101.out 21
                have hfz12_22 := blk_frozen BK101.out 22
                have hfz12_23 := blk_frozen BK101.out 23
                have hfz12_24 := blk_frozen BK101.out 24
                have hfz12_25 := blk_frozen BK101.out 25
                have hfz12_26 := blk_frozen BK101.out 26
                have p102 : 0 ≤ (x4_2 : Int) := of_decide_eq_true (by first | (with_reducible assumption) | assumption)
                have q102 : x4_2 < (l0_24.length : Int) := of_decide_eq_true (by first | (with_reducible assumption) | assumption)
                obtain ⟨ad102, A102_1, c102_1, e102, hx102_0, hx102_1, hl102_1, hi102_1⟩ := at_T48 HR0_24.out x4_2 p102 q102
                cases e102
                replace hx102_0 := (HB.out.cell (World.block_lt_of_cell? w _ hx102_0)).trans hx102_0
                replace hx102_1 := (HB.out.cell (World.block_lt_of_cell? w _ hx102_1)).trans hx102_1
                have HR102_1 := Aside0.mk hi102_1
                have HC102_1 := Aside0.mk hl102_1
                clear hi102_1 hl102_1
                replace p102 := eq_true p102
                replace q102 := eq_true q102
                go_wp2
                repeat (go_quiet (fail); try go_wp2)
                go_roundg k2
                case measure => have := HJ1.out; have := HK2.out; omega
                case rel => exact ⟨(wrap64 (x3_2 + (((rd_T48 l0_24 x4_2).f1).length : Int))), (wrap64 (x4_2 + 1)), (by first | rfl | (simp; done) | (simp [*]; done)), (by first | rfl | (simp; done) | (simp [*]; done)), H', ⟨by have := HJ1.out; have := HK2.out; omega⟩, ⟨by (with_reducible repeat (first | refine blk_drewN ?_ _ | refine blk_drew ?_ | refine blk_alloc ?_ _)); exact BK101.out⟩, ⟨by repeat (first | (with_reducible first | exact HB.out | apply below_alloc | apply pw_below_drewN | apply below_drew1 | refine below_set ?_ GE101.out) | exact HB.out)⟩⟩
              · rw [if_neg c11] at H
                exact absurd H (by simp)
            · rw [if_neg c10] at H
              have c10b0 : decide (x4_2 < (l0_24.length : Int)) = false := decide_eq_false c10
              clear c10
              have H' := Aside0.mk H
              clear H
              have hcz13_0 : wr.cell? ⟨gb101, 0, none⟩ = some (.slice A0_0 l0_0.length c0_0) := (blk_cell BK101.out 0).trans rfl
              have hcz13_1 : wr.cell? ⟨gb101, 1, none⟩ = some (.slice A0_1 l0_1.length c0_1) := (blk_cell BK101.out 1).trans rfl
              have hcz13_2 : wr.cell? ⟨gb101, 2, none⟩ = some (.bool a0_2) := (blk_cell BK101.out 2).trans rfl
              have hcz13_3 : wr.cell? ⟨gb101, 3, none⟩ = some (.int .i64 a0_3) := (blk_cell BK101.out 3).trans rfl
              have hcz13_4 : wr.cell? ⟨gb101, 4, none⟩ = some (.bool a0_4) := (blk_cell BK101.out 4).trans rfl
              have hcz13_5 : wr.cell? ⟨gb101, 5, none⟩ = some (.int .i64 a0_5) := (blk_cell BK101.out 5).trans rfl
              have hcz13_6 : wr.cell? ⟨gb101, 6, none⟩ = some (.int .i64 a0_6) := (blk_cell BK101.out 6).trans rfl
              have hcz13_7 : wr.cell? ⟨gb101, 7, none⟩ = some (.int .i64 a0_7) := (blk_cell BK101.out 7).trans rfl
              have hcz13_8 : wr.cell? ⟨gb101, 8, none⟩ = some (.int .i64 a0_8) := (blk_cell BK101.out 8).trans rfl
              have hcz13_9 : wr.cell? ⟨gb101, 9, none⟩ = some (.int .i64 a0_9) := (blk_cell BK101.out 9).trans rfl
              have hcz13_10 : wr.cell? ⟨gb101, 10, none⟩ = some (.slice A0_10 l0_10.length c0_10) := (blk_cell BK101.out 10).trans rfl
              have hcz13_11 : wr.cell? ⟨gb101, 11, none⟩ = some (.slice A0_11 l0_11.length c0_11) := (blk_cell BK101.out 11).trans rfl
              have hcz13_12 : wr.cell? ⟨gb101, 12, none⟩ = some (.bool a0_12) := (blk_cell BK101.out 12).trans rfl
              have hcz13_13 : wr.cell? ⟨gb101, 13, none⟩ = some (.slice A0_13 l0_13.length c0_13) := (blk_cell BK101.out 13).trans rfl
              have hcz13_14 : wr.cell? ⟨gb101, 14, none⟩ = some (.bool a0_14) := (blk_cell BK101.out 14).trans rfl
              have hcz13_15 : wr.cell? ⟨gb101, 15, none⟩ = some (.int .i64 a0_15) := (blk_cell BK101.out 15).trans rfl
              have hcz13_16 : wr.cell? ⟨gb101, 16, none⟩ = some (.int .i64 a0_16) := (blk_cell BK101.out 16).trans rfl
              have hcz13_17 : wr.cell? ⟨gb101, 17, none⟩ = some (.int .i64 a0_17) := (blk_cell BK101.out 17).trans rfl
              have hcz13_18 : wr.cell? ⟨gb101, 18, none⟩ = some (.int .i64 a0_18) := (blk_cell BK101.out 18).trans rfl
              have hcz13_19 : wr.cell? ⟨gb101, 19, none⟩ = some (.int .i64 a0_19) := (blk_cell BK101.out 19).trans rfl
              have hcz13_20 : wr.cell? ⟨gb101, 20, none⟩ = some (.bool a0_20) := (blk_cell BK101.out 20).trans rfl
              have hcz13_21 : wr.cell? ⟨gb101, 21, none⟩ = some (.bool a0_21) := (blk_cell BK101.out 21).trans rfl
              have hcz13_22 : wr.cell? ⟨gb101, 22, none⟩ = some (.bool a0_22) := (blk_cell BK101.out 22).trans rfl
              have hcz13_23 : wr.cell? ⟨gb101, 23, none⟩ = some (.slice A0_23 l0_23.length c0_23) := (blk_cell BK101.out 23).trans rfl
              have hcz13_24 : wr.cell? ⟨gb101, 24, none⟩ = some (.slice A0_24 l0_24.length c0_24) := (blk_cell BK101.out 24).trans rfl
              have hcz13_25 : wr.cell? ⟨gb101, 25, none⟩ = some (.slice A0_25 l0_25.length c0_25) := (blk_cell BK101.out 25).trans rfl
              have hcz13_26 : wr.cell? ⟨gb101, 26, none⟩ = some (.slice A0_26 l0_26.length c0_26) := (blk_cell BK101.out 26).trans rfl
              have hfz13_0 := blk_frozen BK101.out 0
              have hfz13_1 := blk_frozen BK101.out 1
              have hfz13_2 := blk_frozen BK101.out 2
              have hfz13_3 := blk_frozen BK101.out 3
              have hfz13_4 := blk_frozen BK101.out 4
              have hfz13_5 := blk_frozen BK101.out 5
              have hfz13_6 := blk_frozen BK101.out 6
              have hfz13_7 := blk_frozen BK101.out 7
              have hfz13_8 := blk_frozen BK101.out 8
              have hfz13_9 := blk_frozen BK101.out 9
              have hfz13_10 := blk_frozen BK101.out 10
              have hfz13_11 := blk_frozen BK101.out 11
              have hfz13_12 := blk_frozen BK101.out 12
              have hfz13_13 := blk_frozen BK101.out 13
              have hfz13_14 := blk_frozen BK101.out 14
              have hfz13_15 := blk_frozen BK101.out 15
              have hfz13_16 := blk_frozen BK101.out 16
              have hfz13_17 := blk_frozen BK101.out 17
              have hfz13_18 := blk_frozen BK101.out 18
              have hfz13_19 := blk_frozen BK101.out 19
              have hfz13_20 := blk_frozen BK101.out 20
              have hfz13_21 := blk_frozen BK101.out 21
              have hfz13_22 := blk_frozen BK101.out 22
              have hfz13_23 := blk_frozen BK101.out 23
              have hfz13_24 := blk_frozen BK101.out 24
              have hfz13_25 := blk_frozen BK101.out 25
              have hfz13_26 := blk_frozen BK101.out 26
              go_wp2
              repeat (go_quiet (fail); try go_wp2)
              go_loopg [3, 5] k2 (fun kq v3 v5 w' => ∃ (x3_3 : Int) (x5_3 : Int), v3 = .int .i64 x3_3 ∧ v5 = .int .i64 x5_3 ∧ Aside0 (palinoderef20_Great.l1 kq x3_3 x5_3 l0_0 l0_1 a0_2 a0_3 a0_4 a0_5 a0_6 a0_7 a0_8 a0_9 l0_10 l0_11 a0_12 l0_13 a0_14 a0_15 a0_16 a0_17 a0_18 a0_19 a0_20 a0_21 a0_22 l0_23 l0_24 l0_25 l0_26 = some r) ∧ Aside0 (kq ≤ k2) ∧ Aside0 (w'.heap[gb101]? = some (.cells #[(.slice A0_0 l0_0.length c0_0), (.slice A0_1 l0_1.length c0_1), .bool a0_2, .int .i64 a0_3, .bool a0_4, .int .i64 a0_5, .int .i64 a0_6, .int .i64 a0_7, .int .i64 a0_8, .int .i64 a0_9, (.slice A0_10 l0_10.length c0_10), (.slice A0_11 l0_11.length c0_11), .bool a0_12, (.slice A0_13 l0_13.length c0_13), .bool a0_14, .int .i64 a0_15, .int .i64 a0_16, .int .i64 a0_17, .int .i64 a0_18, .int .i64 a0_19, .bool a0_20, .bool a0_21, .bool a0_22, (.slice A0_23 l0_23.length c0_23), (.slice A0_24 l0_24.length c0_24), (.slice A0_25 l0_25.length c0_25), (.slice A0_26 l0_26.length c0_26)] 34 (0, 0))) ∧ Aside0 (Below w.heap.size w w'))
              case atStart => exact ⟨(x3_2), (0), (by first | rfl | (simp; done) | (simp [*]; done)), (by first | rfl | (simp; done) | (simp [*]; done)), H', ⟨Nat.le_refl _⟩, ⟨by (with_reducible repeat (first | refine blk_drewN ?_ _ | refine blk_drew ?_ | refine blk_alloc ?_ _)); exact BK101.out⟩, ⟨by repeat (first | (with_reducible first | exact HB.out | apply below_alloc | apply pw_below_drewN | apply below_drew1 | refine below_set ?_ GE101.out) | exact HB.out)⟩⟩
              case round =>
                clear H'
                try clear c1
                try clear p1
                try clear q1
                try clear hx1
                try clear p2
                try clear c4
                try clear c5
                try clear c5b0
                try clear c6
                try clear c6b0
                try clear c6b1
                try clear p6
                try clear c9
                try clear c10
                try clear c10b0
                try clear p10
                try clear q10
                try clear hx10
                try clear c11
                try clear c11b0
                try clear hcz12_0
                try clear hcz12_1
                try clear hcz12_10
                try clear hcz12_11
                try clear hcz12_12
                try clear hcz12_13
                try clear hcz12_14
                try clear hcz12_15
                try clear hcz12_16
                try clear hcz12_17
                try clear hcz12_18
                try clear hcz12_19
                try clear hcz12_2
                try clear hcz12_20
                try clear hcz12_21
                try clear hcz12_22
                try clear hcz12_23
                try clear hcz12_24
                try clear hcz12_25
                try clear hcz12_26
                try clear hcz12_3
                try clear hcz12_4
                try clear hcz12_5
                try clear hcz12_6
                try clear hcz12_7
                try clear hcz12_8
                try clear hcz12_9
                try clear hcz13_0
                try clear hcz13_1
                try clear hcz13_10
                try clear hcz13_11
                try clear hcz13_12
                try clear hcz13_13
                try clear hcz13_14
                try clear hcz13_15
                try clear hcz13_16
                try clear hcz13_17
                try clear hcz13_18
                try clear hcz13_19
                try clear hcz13_2
                try clear hcz13_20
                try clear hcz13_21
                try clear hcz13_22
                try clear hcz13_23
                try clear hcz13_24
                try clear hcz13_25
                try clear hcz13_26
                try clear hcz13_3
                try clear hcz13_4
                try clear hcz13_5
                try clear hcz13_6
                try clear hcz13_7
                try clear hcz13_8
                try clear hcz13_9
                try clear hcz4_0
                try clear hcz4_1
                try clear hcz4_10
                try clear hcz4_11
                try clear hcz4_12
                try clear hcz4_13
                try clear hcz4_14
                try clear hcz4_15
                try clear hcz4_16
                try clear hcz4_17
                try clear hcz4_18
                try clear hcz4_19
                try clear hcz4_2
                try clear hcz4_20
                try clear hcz4_21
                try clear hcz4_22
                try clear hcz4_23
                try clear hcz4_24
                try clear hcz4_25
                try clear hcz4_26
                try clear hcz4_3
                try clear hcz4_4
                try clear hcz4_5
                try clear hcz4_6
                try clear hcz4_7
                try clear hcz4_8
                try clear hcz4_9
                try clear hcz7_0
                try clear hcz7_1
                try clear hcz7_10
                try clear hcz7_11
                try clear hcz7_12
                try clear hcz7_13
                try clear hcz7_14
                try clear hcz7_15
                try clear hcz7_16
                try clear hcz7_17
                try clear hcz7_18
                try clear hcz7_19
                try clear hcz7_2
                try clear hcz7_20
                try clear hcz7_21
                try clear hcz7_22
                try clear hcz7_23
                try clear hcz7_24
                try clear hcz7_25
                try clear hcz7_26
                try clear hcz7_3
                try clear hcz7_4
                try clear hcz7_5
                try clear hcz7_6
                try clear hcz7_7
                try clear hcz7_8
                try clear hcz7_9
                try clear hcz8_0
                try clear hcz8_1
                try clear hcz8_10
                try clear hcz8_11
                try clear hcz8_12
                try clear hcz8_13
                try clear hcz8_14
                try clear hcz8_15
                try clear hcz8_16
                try clear hcz8_17
                try clear hcz8_18
                try clear hcz8_19
                try clear hcz8_2
                try clear hcz8_20
                try clear hcz8_21
                try clear hcz8_22
                try clear hcz8_23
                try clear hcz8_24
                try clear hcz8_25
                try clear hcz8_26
                try clear hcz8_3
                try clear hcz8_4
                try clear hcz8_5
                try clear hcz8_6
                try clear hcz8_7
                try clear hcz8_8
                try clear hcz8_9
                try clear hfz12_0
                try clear hfz12_1
                try clear hfz12_10
                try clear hfz12_11
                try clear hfz12_12
                try clear hfz12_13
                try clear hfz12_14
                try clear hfz12_15
                try clear hfz12_16
                try clear hfz12_17
                try clear hfz12_18
                try clear hfz12_19
                try clear hfz12_2
                try clear hfz12_20
                try clear hfz12_21
                try clear hfz12_22
                try clear hfz12_23
                try clear hfz12_24
                try clear hfz12_25
                try clear hfz12_26
                try clear hfz12_3
                try clear hfz12_4
                try clear hfz12_5
                try clear hfz12_6
                try clear hfz12_7
                try clear hfz12_8
                try clear hfz12_9
                try clear hfz13_0
                try clear hfz13_1
                try clear hfz13_10
                try clear hfz13_11
                try clear hfz13_12
                try clear hfz13_13
                try clear hfz13_14
                try clear hfz13_15
                try clear hfz13_16
                try clear hfz13_17
                try clear hfz13_18
                try clear hfz13_19
                try clear hfz13_2
                try clear hfz13_20
                try clear hfz13_21
                try clear hfz13_22
                try clear hfz13_23
                try clear hfz13_24
                try clear hfz13_25
                try clear hfz13_26
                try clear hfz13_3
                try clear hfz13_4
                try clear hfz13_5
                try clear hfz13_6
                try clear hfz13_7
                try clear hfz13_8
                try clear hfz13_9
                try clear hfz4_0
                try clear hfz4_1
                try clear hfz4_10
                try clear hfz4_11
                try clear hfz4_12
                try clear hfz4_13
                try clear hfz4_14
                try clear hfz4_15
                try clear hfz4_16
                try clear hfz4_17
                try clear hfz4_18
                try clear hfz4_19
                try clear hfz4_2
                try clear hfz4_20
                try clear hfz4_21
                try clear hfz4_22
                try clear hfz4_23
                try clear hfz4_24
                try clear hfz4_25
                try clear hfz4_26
                try clear hfz4_3
                try clear hfz4_4
                try clear hfz4_5
                try clear hfz4_6
                try clear hfz4_7
                try clear hfz4_8
                try clear hfz4_9
                try clear hfz7_0
                try clear hfz7_1
                try clear hfz7_10
                try clear hfz7_11
                try clear hfz7_12
                try clear hfz7_13
                try clear hfz7_14
                try clear hfz7_15
                try clear hfz7_16
                try clear hfz7_17
                try clear hfz7_18
                try clear hfz7_19
                try clear hfz7_2
                try clear hfz7_20
                try clear hfz7_21
                try clear hfz7_22
                try clear hfz7_23
                try clear hfz7_24
                try clear hfz7_25
                try clear hfz7_26
                try clear hfz7_3
                try clear hfz7_4
                try clear hfz7_5
                try clear hfz7_6
                try clear hfz7_7
                try clear hfz7_8
                try clear hfz7_9
                try clear hfz8_0
                try clear hfz8_1
                try clear hfz8_10
                try clear hfz8_11
                try clear hfz8_12
                try clear hfz8_13
                try clear hfz8_14
                try clear hfz8_15
                try clear hfz8_16
                try clear hfz8_17
                try clear hfz8_18
                try clear hfz8_19
                try clear hfz8_2
                try clear hfz8_20
                try clear hfz8_21
                try clear hfz8_22
                try clear hfz8_23
                try clear hfz8_24
                try clear hfz8_25
                try clear hfz8_26
                try clear hfz8_3
                try clear hfz8_4
                try clear hfz8_5
                try clear hfz8_6
                try clear hfz8_7
                try clear hfz8_8
                try clear hfz8_9
                try clear hx102_0
                try clear hx102_1
                try clear p102
                try clear p2
                try clear p6
                try clear q102
                obtain ⟨x3_3, x5_3, rfl, rfl, HA, HK3, BK101, HB⟩ := hrel
                cases gk with
                | zero => exact absurd HA.out (by simp [palinoderef20_Great.l1])
                | succ k3 =>
                  have H := HA.out
                  clear HA
                  simp only [palinoderef20_Great.l1] at H
                  by_cases c14 : x5_3 < (l0_25.length : Int)
                  · rw [if_pos c14] at H
                    have c14b0 : decide (x5_3 < (l0_25.length : Int)) = true := decide_eq_true c14
                    clear c14
                    by_cases c15 : 0 ≤ x5_3
                    · rw [if_pos c15] at H
                      have c15b0 : decide (0 ≤ x5_3) = true := decide_eq_true c15
                      clear c15
                      have H' := Aside0.mk H
                      clear H
                      have hcz16_0 : wr.cell? ⟨gb101, 0, none⟩ = some (.slice A0_0 l0_0.length c0_0) := (blk_cell BK101.out 0).trans rfl
                      have hcz16_1 : wr.cell? ⟨gb101, 1, none⟩ = some (.slice A0_1 l0_1.length c0_1) := (blk_cell BK101.out 1).trans rfl
                      have hcz16_2 : wr.cell? ⟨gb101, 2, none⟩ = some (.bool a0_2) := (blk_cell BK101.out 2).trans rfl
                      have hcz16_3 : wr.cell? ⟨gb101, 3, none⟩ = some (.int .i64 a0_3) := (blk_cell BK101.out 3).trans rfl
                      have hcz16_4 : wr.cell? ⟨gb101, 4, none⟩ = some (.bool a0_4) := (blk_cell BK101.out 4).trans rfl
                      have hcz16_5 : wr.cell? ⟨gb101, 5, none⟩ = some (.int .i64 a0_5) := (blk_cell BK101.out 5).trans rfl
                      have hcz16_6 : wr.cell? ⟨gb101, 6, none⟩ = some (.int .i64 a0_6) := (blk_cell BK101.out 6).trans rfl
                      have hcz16_7 : wr.cell? ⟨gb101, 7, none⟩ = some (.int .i64 a0_7) := (blk_cell BK101.out 7).trans rfl
                      have hcz16_8 : wr.cell? ⟨gb101, 8, none⟩ = some (.int .i64 a0_8) := (blk_cell BK101.out 8).trans rfl
                      have hcz16_9 : wr.cell? ⟨gb101, 9, none⟩ = some (.int .i64 a0_9) := (blk_cell BK101.out 9).trans rfl
                      have hcz16_10 : wr.cell? ⟨gb101, 10, none⟩ = some (.slice A0_10 l0_10.length c0_10) := (blk_cell BK101.out 10).trans rfl
                      have hcz16_11 : wr.cell? ⟨gb101, 11, none⟩ = some (.slice A0_11 l0_11.length c0_11) := (blk_cell BK101.out 11).trans rfl
                      have hcz16_12 : wr.cell? ⟨gb101, 12, none⟩ = some (.bool a0_12) := (blk_cell BK101.out 12).trans rfl
                      have hcz16_13 : wr.cell? ⟨gb101, 13, none⟩ = some (.slice A0_13 l0_13.length c0_13) := (blk_cell BK101.out 13).trans rfl
                      have hcz16_14 : wr.cell? ⟨gb101, 14, none⟩ = some (.bool a0_14) := (blk_cell BK101.out 14).trans rfl
                      have hcz16_15 : wr.cell? ⟨gb101, 15, none⟩ = some (.int .i64 a0_15) := (blk_cell BK101.out 15).trans rfl
                      have hcz16_16 : wr.cell? ⟨gb101, 16, none⟩ = some (.int .i64 a0_16) := (blk_cell BK101.out 16).trans rfl
                      have hcz16_17 : wr.cell? ⟨gb101, 17, none⟩ = some (.int .i64 a0_17) := (blk_cell BK101.out 17).trans rfl
                      have hcz16_18 : wr.cell? ⟨gb101, 18, none⟩ = some (.int .i64 a0_18) := (blk_cell BK101.out 18).trans rfl
                      have hcz16_19 : wr.cell? ⟨gb101, 19, none⟩ = some (.int .i64 a0_19) := (blk_cell BK101.out 19).trans rfl
                      have hcz16_20 : wr.cell? ⟨gb101, 20, none⟩ = some (.bool a0_20) := (blk_cell BK101.out 20).trans rfl
                      have hcz16_21 : wr.cell? ⟨gb101, 21, none⟩ = some (.bool a0_21) := (blk_cell BK101.out 21).trans rfl
                      have hcz16_22 : wr.cell? ⟨gb101, 22, none⟩ = some (.bool a0_22) := (blk_cell BK101.out 22).trans rfl
                      have hcz16_23 : wr.cell? ⟨gb101, 23, none⟩ = some (.slice A0_23 l0_23.length c0_23) := (blk_cell BK101.out 23).trans rfl
                      have hcz16_24 : wr.cell? ⟨gb101, 24, none⟩ = some (.slice A0_24 l0_24.length c0_24) := (blk_cell BK101.out 24).trans rfl
                      have hcz16_25 : wr.cell? ⟨gb101, 25, none⟩ = some (.slice A0_25 l0_25.length c0_25) := (blk_cell BK101.out 25).trans rfl
                      have hcz16_26 : wr.cell? ⟨gb101, 26, none⟩ = some (.slice A0_26 l0_26.length c0_26) := (blk_cell BK101.out 26).trans rfl
                      have hfz16_0 := blk_frozen BK101.out 0
                      have hfz16_1 := blk_frozen BK101.out 1
                      have hfz16_2 := blk_frozen BK101.out 2
                      have hfz16_3 := blk_frozen BK101.out 3
                      have hfz16_4 := blk_frozen BK101.out 4
                      have hfz16_5 := blk_frozen BK101.out 5
                      have hfz16_6 := blk_frozen BK101.out 6
                      have hfz16_7 := blk_frozen BK101.out 7
                      have hfz16_8 := blk_frozen BK101.out 8
                      have hfz16_9 := blk_frozen BK101.out 9
                      have hfz16_10 := blk_frozen BK101.out 10
                      have hfz16_11 := blk_frozen BK101.out 11
                      have hfz16_12 := blk_frozen BK101.out 12
                      have hfz16_13 := blk_frozen BK101.out 13
                      have hfz16_14 := blk_frozen BK101.out 14
                      have hfz16_15 := blk_frozen BK101.out 15
                      have hfz16_16 := blk_frozen BK101.out 16
                      have hfz16_17 := blk_frozen BK101.out 17
                      have hfz16_18 := blk_frozen BK101.out 18
                      have hfz16_19 := blk_frozen BK101.out 19
                      have hfz16_20 := blk_frozen BK101.out 20
                      have hfz16_21 := blk_frozen BK101.out 21
                      have hfz16_22 := blk_frozen BK101.out 22
                      have hfz16_23 := blk_frozen BK101.out 23
                      have hfz16_24 := blk_frozen BK101.out 24
                      have hfz16_25 := blk_frozen BK101.out 25
                      have hfz16_26 := blk_frozen BK101.out 26
                      have p103 : 0 ≤ (x5_3 : Int) := of_decide_eq_true (by first | (with_reducible assumption) | assumption)
                      have q103 : x5_3 < (l0_25.length : Int) := of_decide_eq_true (by first | (with_reducible assumption) | assumption)
                      obtain ⟨ad103, A103_1, c103_1, e103, hx103_0, hx103_1, hl103_1, hi103_1⟩ := at_T43 HR0_25.out x5_3 p103 q103
                      cases e103
                      replace hx103_0 := (HB.out.cell (World.block_lt_of_cell? w _ hx103_0)).trans hx103_0
                      replace hx103_1 := (HB.out.cell (World.block_lt_of_cell? w _ hx103_1)).trans hx103_1
                      have HR103_1 := Aside0.mk hi103_1
                      have HC103_1 := Aside0.mk hl103_1
                      clear hi103_1 hl103_1
                      replace p103 := eq_true p103
                      replace q103 := eq_true q103
                      have p104 : 0 ≤ (x5_3 : Int) := of_decide_eq_true (by first | (with_reducible assumption) | assumption)
                      have q104 : x5_3 < (l0_25.length : Int) := of_decide_eq_true (by first | (with_reducible assumption) | assumption)
                      obtain ⟨ad104, A104_1, c104_1, e104, hx104_0, hx104_1, hl104_1, hi104_1⟩ := at_T43 HR0_25.out x5_3 p104 q104
                      obtain rfl : ad103 = ad104 := (by injection e104)
                      replace hx104_0 := (HB.out.cell (World.block_lt_of_cell? w _ hx104_0)).trans hx104_0
                      replace hx104_1 := (HB.out.cell (World.block_lt_of_cell? w _ hx104_1)).trans hx104_1
                      have HR104_1 := Aside0.mk hi104_1
                      have HC104_1 := Aside0.mk hl104_1
                      clear hi104_1 hl104_1
                      replace p104 := eq_true p104
                      replace q104 := eq_true q104
                      have ea_ := Option.some.inj (hx103_1.symm.trans hx104_1)
                      injection ea_ with ea_ en_ ec_
                      subst ea_
                      subst ec_
                      clear en_
                      go_wp2
                      repeat (go_quiet (fail); try go_wp2)
                      go_roundg k3
                      case measure => have := HJ1.out; have := HK2.out; have := HK3.out; omega
                      case rel => exact ⟨(wrap64 ((wrap64 (x3_3 + (((rd_T43 l0_25 x5_3).f1).length : Int))) + (((rd_T43 l0_25 x5_3).f0).size : Int))), (wrap64 (x5_3 + 1)), (by first | rfl | (simp; done) | (simp [*]; done)), (by first | rfl | (simp; done) | (simp [*]; done)), H', ⟨by have := HJ1.out; have := HK2.out; have := HK3.out; omega⟩, ⟨by (with_reducible repeat (first | refine blk_drewN ?_ _ | refine blk_drew ?_ | refine blk_alloc ?_ _)); exact BK101.out⟩, ⟨by repeat (first | (with_reducible first | exact HB.out | apply below_alloc | apply pw_below_drewN | apply below_drew1 | refine below_set ?_ GE101.out) | exact HB.out)⟩⟩
                    · rw [if_neg c15] at H
                      exact absurd H (by simp)
                  · rw [if_neg c14] at H
                    have c14b0 : decide (x5_3 < (l0_25.length : Int)) = false := decide_eq_false c14
                    clear c14
                    obtain rfl := Option.some.inj H
                    have hcz17_0 : wr.cell? ⟨gb101, 0, none⟩ = some (.slice A0_0 l0_0.length c0_0) := (blk_cell BK101.out 0).trans rfl
                    have hcz17_1 : wr.cell? ⟨gb101, 1, none⟩ = some (.slice A0_1 l0_1.length c0_1) := (blk_cell BK101.out 1).trans rfl
                    have hcz17_2 : wr.cell? ⟨gb101, 2, none⟩ = some (.bool a0_2) := (blk_cell BK101.out 2).trans rfl
                    have hcz17_3 : wr.cell? ⟨gb101, 3, none⟩ = some (.int .i64 a0_3) := (blk_cell BK101.out 3).trans rfl
                    have hcz17_4 : wr.cell? ⟨gb101, 4, none⟩ = some (.bool a0_4) := (blk_cell BK101.out 4).trans rfl
                    have hcz17_5 : wr.cell? ⟨gb101, 5, none⟩ = some (.int .i64 a0_5) := (blk_cell BK101.out 5).trans rfl
                    have hcz17_6 : wr.cell? ⟨gb101, 6, none⟩ = some (.int .i64 a0_6) := (blk_cell BK101.out 6).trans rfl
                    have hcz17_7 : wr.cell? ⟨gb101, 7, none⟩ = some (.int .i64 a0_7) := (blk_cell BK101.out 7).trans rfl
                    have hcz17_8 : wr.cell? ⟨gb101, 8, none⟩ = some (.int .i64 a0_8) := (blk_cell BK101.out 8).trans rfl
                    have hcz17_9 : wr.cell? ⟨gb101, 9, none⟩ = some (.int .i64 a0_9) := (blk_cell BK101.out 9).trans rfl
                    have hcz17_10 : wr.cell? ⟨gb101, 10, none⟩ = some (.slice A0_10 l0_10.length c0_10) := (blk_cell BK101.out 10).trans rfl
                    have hcz17_11 : wr.cell? ⟨gb101, 11, none⟩ = some (.slice A0_11 l0_11.length c0_11) := (blk_cell BK101.out 11).trans rfl
                    have hcz17_12 : wr.cell? ⟨gb101, 12, none⟩ = some (.bool a0_12) := (blk_cell BK101.out 12).trans rfl
                    have hcz17_13 : wr.cell? ⟨gb101, 13, none⟩ = some (.slice A0_13 l0_13.length c0_13) := (blk_cell BK101.out 13).trans rfl
                    have hcz17_14 : wr.cell? ⟨gb101, 14, none⟩ = some (.bool a0_14) := (blk_cell BK101.out 14).trans rfl
                    have hcz17_15 : wr.cell? ⟨gb101, 15, none⟩ = some (.int .i64 a0_15) := (blk_cell BK101.out 15).trans rfl
                    have hcz17_16 : wr.cell? ⟨gb101, 16, none⟩ = some (.int .i64 a0_16) := (blk_cell BK101.out 16).trans rfl
                    have hcz17_17 : wr.cell? ⟨gb101, 17, none⟩ = some (.int .i64 a0_17) := (blk_cell BK101.out 17).trans rfl
                    have hcz17_18 : wr.cell? ⟨gb101, 18, none⟩ = some (.int .i64 a0_18) := (blk_cell BK101.out 18).trans rfl
                    have hcz17_19 : wr.cell? ⟨gb101, 19, none⟩ = some (.int .i64 a0_19) := (blk_cell BK101.out 19).trans rfl
                    have hcz17_20 : wr.cell? ⟨gb101, 20, none⟩ = some (.bool a0_20) := (blk_cell BK101.out 20).trans rfl
                    have hcz17_21 : wr.cell? ⟨gb101, 21, none⟩ = some (.bool a0_21) := (blk_cell BK101.out 21).trans rfl
                    have hcz17_22 : wr.cell? ⟨gb101, 22, none⟩ = some (.bool a0_22) := (blk_cell BK101.out 22).trans rfl
                    have hcz17_23 : wr.cell? ⟨gb101, 23, none⟩ = some (.slice A0_23 l0_23.length c0_23) := (blk_cell BK101.out 23).trans rfl
                    have hcz17_24 : wr.cell? ⟨gb101, 24, none⟩ = some (.slice A0_24 l0_24.length c0_24) := (blk_cell BK101.out 24).trans rfl
                    have hcz17_25 : wr.cell? ⟨gb101, 25, none⟩ = some (.slice A0_25 l0_25.length c0_25) := (blk_cell BK101.out 25).trans rfl
                    have hcz17_26 : wr.cell? ⟨gb101, 26, none⟩ = some (.slice A0_26 l0_26.length c0_26) := (blk_cell BK101.out 26).trans rfl
                    have hfz17_0 := blk_frozen BK101.out 0
                    have hfz17_1 := blk_frozen BK101.out 1
                    have hfz17_2 := blk_frozen BK101.out 2
                    have hfz17_3 := blk_frozen BK101.out 3
                    have hfz17_4 := blk_frozen BK101.out 4
                    have hfz17_5 := blk_frozen BK101.out 5
                    have hfz17_6 := blk_frozen BK101.out 6
                    have hfz17_7 := blk_frozen BK101.out 7
                    have hfz17_8 := blk_frozen BK101.out 8
                    have hfz17_9 := blk_frozen BK101.out 9
                    have hfz17_10 := blk_frozen BK101.out 10
                    have hfz17_11 := blk_frozen BK101.out 11
                    have hfz17_12 := blk_frozen BK101.out 12
                    have hfz17_13 := blk_frozen BK101.out 13
                    have hfz17_14 := blk_frozen BK101.out 14
                    have hfz17_15 := blk_frozen BK101.out 15
                    have hfz17_16 := blk_frozen BK101.out 16
                    have hfz17_17 := blk_frozen BK101.out 17
                    have hfz17_18 := blk_frozen BK101.out 18
                    have hfz17_19 := blk_frozen BK101.out 19
                    have hfz17_20 := blk_frozen BK101.out 20
                    have hfz17_21 := blk_frozen BK101.out 21
                    have hfz17_22 := blk_frozen BK101.out 22
                    have hfz17_23 := blk_frozen BK101.out 23
                    have hfz17_24 := blk_frozen BK101.out 24
                    have hfz17_25 := blk_frozen BK101.out 25
                    have hfz17_26 := blk_frozen BK101.out 26
                    go_wp2
                    repeat (go_quiet (fail); try go_wp2)
                    go_ret
                    exact ⟨by first | rfl | (simp [errW_none, errW_some] <;> rfl) | (simp [*, errW_none, errW_some] <;> rfl), by repeat (first | (with_reducible first | exact HB.out | apply below_alloc | apply pw_below_drewN | apply below_drew1 | refine below_set ?_ GE101.out) | exact HB.out)⟩

end Go.Proofs.YtfoijbcdbcehiaaDoor.PViewStates
