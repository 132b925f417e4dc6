-- Written by a program (wip/tools/myprint.py over the kit's print): the functions that are proved by hand stand in YtiohajjdlcmhnaaHShowQuotes
import Derived.Test.YtiohajjdlcmhnaaPShowQuotesx0
namespace Go.Proofs.Ytiohajjdlcmhnaa.PShowQuotes
open Go.RowKit Go.Proofs.YtiohajjdlcmhnaaW.PrintWords Go.Proofs.YtiohajjdlcmhnaaW.PrintLast Go.Proofs.YtiohajjdlcmhnaaW.PrintMore
attribute [local go_sem] max2_int min2_int max_two min_two max_three min_three max_four min_four   -- for this text's walks alone
set_option linter.unusedVariables false
set_option linter.unusedSimpArgs false

-- NOT PRINTED: function 22 (abi_NoEscape)

-- NOT PRINTED: function 18 (strings_Builder_copyCheck)

-- NOT PRINTED: function 11 (strings_Builder_WriteByte)

-- NOT PRINTED: function 12 (strings_Builder_WriteString)

-- NOT PRINTED: function 14 (strings_Builder_String)

-- NOT PRINTED: function 9 (show_List)

-- NOT PRINTED: function 26 (bytealg_MakeNoZero)

-- NOT PRINTED: function 24 (strings_Builder_grow)

-- NOT PRINTED: function 21 (strings_Builder_Grow)

/-! ### show_Row: function 10 -/
def show_Row.f (l0 : List ByteArray) : Option (ByteArray) := (strings_Join.f l0 (⟨#[32]⟩ : ByteArray)).bind fun t124 => (some t124)
set_option maxHeartbeats 8000000 in
set_option maxRecDepth 100000 in
theorem show_Row.calls (A0 : Option Addr) (c0 : Nat) (l0 : List ByteArray) (r : ByteArray) (w : World) (hr0 : Kd.C Kd.string w A0 l0.length l0) (hc0 : l0.length ≤ c0) (h : show_Row.f l0 = some r) :
    Calls Try.prog 10 #[.slice A0 l0.length c0] w fun e w' => e = .returned (.string r) ∧ Below w.heap.size w w' := by
  have HR0 := Aside0.mk hr0
  have HC0 := Aside0.mk hc0
  clear hr0 hc0
  have HB := Aside0.mk (Below.refl w.heap.size w)
  have H : ((strings_Join.f l0 (⟨#[32]⟩ : ByteArray)).bind fun t124 => (some t124)) = some r := h
  clear h
  replace H := Option.bind_eq_some_iff.mp H
  obtain ⟨t124, A20, H⟩ := H
  replace H : (some t124) = some r := H
  have A2 := Aside0.mk A20
  clear A20
  obtain rfl := Option.some.inj H
  go_enter Try.func10, Try.ntmps10
  go_wp2_with (first | ((with_reducible refine gate_callee (f := 17) rfl ?_); refine goesL_ (some 4) rfl rfl Try.func17 (by kernel_rfl) rfl #[.slice A0 l0.length c0, .string (⟨#[32]⟩ : ByteArray)] rfl (by (try simp only [List.map_toArray, List.map_cons, List.map_nil]); first | done | rfl | (simp only [List.length_drop, List.length_take]; rfl)) ?_; (with_reducible refine (strings_Join.calls _ _ l0 (⟨#[32]⟩ : ByteArray) t124 _ ?side1 ?side2 A2.out).mono ?_); (case side1 => repeat (first | exact HR0.out | (with_reducible refine Kd.C_alloc ?_ _) | (with_reducible refine Kd.C_drewN ?_ _) | (with_reducible refine Kd.C_drew ?_))); (case side2 => exact HC0.out); rintro e w3 ⟨rfl, hb⟩; refine ⟨_, rfl, ?_⟩; have n0_ := Aside0.mk (below_step (by repeat (first | (with_reducible first | exact HB.out | apply below_alloc | apply pw_below_drewN | apply below_drew1) | exact HB.out)) hb); clear HB; have HB := n0_; clear n0_; (try clear hb); (try clear hb2); (try clear hk); (try clear hi)))
  go_ret
  exact ⟨by first | rfl | (simp [errW_none, errW_some] <;> rfl) | (simp [*, errW_none, errW_some] <;> rfl), by repeat (first | (with_reducible first | exact HB.out | apply below_alloc | apply pw_below_drewN | apply below_drew1) | exact HB.out)⟩

-- NOT PRINTED: function 25 (bytealg_IndexByteString)

-- NOT PRINTED: function 23 (stringslite_IndexByte)

/-! ### show_isOctal: function 20 -/
def show_isOctal.f (a0 : Int) : Option (Bool) := if a0 ≥ 48 then (some (decide (a0 ≤ 55))) else (some false)
set_option maxHeartbeats 8000000 in
set_option maxRecDepth 100000 in
theorem show_isOctal.calls (a0 : Int) (r : Bool) (w : World) (h : show_isOctal.f a0 = some r) :
    Calls Try.prog 20 #[.int .u8 a0] w fun e w' => e = .returned (.bool r) ∧ Drawn0 w w' := by
  have H : (if a0 ≥ 48 then (some (decide (a0 ≤ 55))) else (some false)) = some r := h
  clear h
  by_cases c2 : a0 ≥ 48
  · rw [if_pos c2] at H
    have c2b0 : decide (48 ≤ a0) = true := decide_eq_true c2
    clear c2
    obtain rfl := Option.some.inj H
    go_enter Try.func20, Try.ntmps20
    go_wp2
    go_ret
    exact ⟨by first | rfl | (simp; done) | (simp [*]; done), by repeat (first | exact Drawn0.refl _ | apply Drawn0.step)⟩
  · rw [if_neg c2] at H
    have c2b0 : decide (48 ≤ a0) = false := decide_eq_false c2
    clear c2
    obtain rfl := Option.some.inj H
    go_enter Try.func20, Try.ntmps20
    go_wp2
    go_ret
    exact ⟨by first | rfl | (simp; done) | (simp [*]; done), by repeat (first | exact Drawn0.refl _ | apply Drawn0.step)⟩

/-! ### show_escape: function 15 -/
mutual
def show_escape.j0 : Nat → ByteArray → Int → Bool → Option (Int × Int × Int)
  | 0, _, _, _ => none
  | k + 1, x0, x3, x16 => if x16 = true then (if 0 < (x0.size : Int) then (some (bt x0 0, 1, 0)) else (none)) else (if 0 < (x0.size : Int) then ((strings_IndexByte.f (⟨#[97, 98, 116, 110, 118, 102, 114]⟩ : ByteArray) (bt x0 0)).bind fun t125 => (if t125 ≥ 0 then (some ((7 + ((t125) % 256)) % 256, 1, 0)) else (show_escape.l0 k x0 x3 0))) else (none))
def show_escape.l0 : Nat → ByteArray → Int → Int → Option (Int × Int × Int)
  | 0, _, _, _ => none
  | k + 1, x0, x3, x6 => if x3 < 3 then (if x3 = (x0.size : Int) then (some (0, 0, 2)) else (if 0 ≤ x3 then (if x3 < (x0.size : Int) then ((show_isOctal.f (bt x0 x3)).bind fun t126 => (if t126 = true then (show_escape.l0 k x0 (wrap64 (x3 + 1)) (wrap64 ((wrap64 (x6 * 8)) + (((bt x0 x3) - 48) % 256)))) else (some (0, 0, 10)))) else (none)) else (none))) else (if x6 > 255 then (some (0, 0, 10)) else (some ((x6) % 256, x3, 0)))
end
def show_escape.f (k : Nat) (a0 : ByteArray) : Option (Int × Int × Int) := if a0.toList = ([] : List UInt8) then (some (0, 0, 2)) else (if 0 < (a0.size : Int) then (if (bt a0 0) = 92 then (show_escape.j0 k a0 0 true) else (show_escape.j0 k a0 0 ((bt a0 0) == 34))) else (none))
theorem show_escape.mono_l : ∀ k, (∀ y0 y1 y2, LeO (show_escape.j0 k y0 y1 y2) (show_escape.j0 (k + 1) y0 y1 y2)) ∧ (∀ y0 y1 y2, LeO (show_escape.l0 k y0 y1 y2) (show_escape.l0 (k + 1) y0 y1 y2))
  | 0 => ⟨fun _ _ _ r h => by simp [show_escape.j0] at h, fun _ _ _ r h => by simp [show_escape.l0] at h⟩
  | k + 1 => by
    obtain ⟨ih0, ih1⟩ := show_escape.mono_l k
    refine ⟨?_, ?_⟩
    · intro y0 y1 y2
      unfold show_escape.j0
      repeat' first
      | (with_reducible exact ih0 _ _ _)
      | (with_reducible exact ih1 _ _ _)
      | (with_reducible exact LeO.refl _)
      | (with_reducible exact LeO.none _)
      | (with_reducible refine LeO.ite ?_ ?_)
      | (with_reducible refine LeO.bind ?_ (fun _ => ?_))
      | exact ih0 _ _ _
      | exact ih1 _ _ _
      | exact LeO.none _
      | refine LeO.ite ?_ ?_
      | refine LeO.bind ?_ (fun _ => ?_)
    · intro y0 y1 y2
      unfold show_escape.l0
      repeat' first
      | (with_reducible exact ih0 _ _ _)
      | (with_reducible exact ih1 _ _ _)
      | (with_reducible exact LeO.refl _)
      | (with_reducible exact LeO.none _)
      | (with_reducible refine LeO.ite ?_ ?_)
      | (with_reducible refine LeO.bind ?_ (fun _ => ?_))
      | exact ih0 _ _ _
      | exact ih1 _ _ _
      | exact LeO.none _
      | refine LeO.ite ?_ ?_
      | refine LeO.bind ?_ (fun _ => ?_)
theorem show_escape.mono : ∀ a0 k, LeO (show_escape.f k a0) (show_escape.f (k + 1) a0) := by
  intro a0 k
  obtain ⟨ih0, ih1⟩ := show_escape.mono_l k
  unfold show_escape.f
  repeat' first
      | (with_reducible exact ih0 _ _ _)
      | (with_reducible exact ih1 _ _ _)
      | (with_reducible exact LeO.refl _)
      | (with_reducible exact LeO.none _)
      | (with_reducible refine LeO.ite ?_ ?_)
      | (with_reducible refine LeO.bind ?_ (fun _ => ?_))
      | exact ih0 _ _ _
      | exact ih1 _ _ _
      | exact LeO.none _
      | refine LeO.ite ?_ ?_
      | refine LeO.bind ?_ (fun _ => ?_)
set_option maxHeartbeats 8000000 in
set_option maxRecDepth 100000 in
theorem show_escape.calls (k : Nat) (a0 : ByteArray) (r1 : Int) (r2 : Int) (r3 : Int) (w : World) (h : show_escape.f k a0 = some (r1, r2, r3)) :
    Calls Try.prog 15 #[.string a0] w fun e w' => e = .returned (.tuple #[.int .u8 r1, .int .i64 r2, .int .i64 r3]) ∧ Drawn0 w w' := by
  have H : (if a0.toList = ([] : List UInt8) then (some (0, 0, 2)) else (if 0 < (a0.size : Int) then (if (bt a0 0) = 92 then (show_escape.j0 k a0 0 true) else (show_escape.j0 k a0 0 ((bt a0 0) == 34))) else (none))) = some (r1, r2, r3) := h
  clear h
  by_cases c2 : a0.toList = ([] : List UInt8)
  · rw [if_pos c2] at H
    have c2b0 : (a0.toList == ([] : List UInt8)) = true := beq_iff_eq.mpr c2
    have c2b1 : (a0.toList != ([] : List UInt8)) = false := bne_eq_false_iff_eq.mpr c2
    clear c2
    simp only [Option.some.injEq, Prod.mk.injEq] at H
    obtain ⟨rfl, rfl, rfl⟩ := H
    go_enter Try.func15, Try.ntmps15
    go_wp2
    go_ret3
    exact ⟨by first | rfl | (simp; done) | (simp [*]; done), by repeat (first | exact Drawn0.refl _ | apply Drawn0.step)⟩
  · rw [if_neg c2] at H
    have c2b0 : (a0.toList == ([] : List UInt8)) = false := beq_eq_false_iff_ne.mpr c2
    have c2b1 : (a0.toList != ([] : List UInt8)) = true := bne_iff_ne.mpr c2
    have HC3 := Aside0.mk H
    clear H
    go_enter Try.func15, Try.ntmps15
    go_upto_region 3 with (fail)
    go_cut [16] (fun v16 wc => ∃ (kq : Nat) (x16_2 : Bool), v16 = .bool x16_2 ∧ Aside0 (show_escape.j0 kq a0 0 x16_2 = some (r1, r2, r3)) ∧ Aside0 (kq ≤ k) ∧ Drawn0 w wc)
    case first =>
      have H := HC3.out
      clear HC3
      by_cases c4 : 0 < (a0.size : Int)
      · rw [if_pos c4] at H
        have c4b0 : decide (0 < (a0.size : Int)) = true := decide_eq_true c4
        have c4b1 : decide (0 < a0.size) = true := decide_eq_true (by omega)
        clear c4
        (first | rw [c4b0] | (simp only [i64_w, i32_w]; rw [c4b0]) | skip)
        by_cases c6 : (bt a0 0) = 92
        · rw [if_pos c6] at H
          have c6b0 : ((bt a0 0) == 92) = true := beq_iff_eq.mpr c6
          have c6b1 : ((bt a0 0) != 92) = false := bne_eq_false_iff_eq.mpr c6
          clear c6
          have H' := Aside0.mk H
          clear H
          have p5 : 0 ≤ (0 : Int) := (by omega)
          have q5 : 0 < a0.size := (by have : (0 : Int) < (a0.size : Int) := of_decide_eq_true (by first | (with_reducible assumption) | assumption); omega)
          have hx5 : ∀ h : 0 < a0.size, ((a0[0]'h).toNat : Int) = bt a0 0 := bt_at a0 0
          clear p5
          have qi5 : (0 < (a0.size : Int)) = True := eq_true (of_decide_eq_true (by first | (with_reducible assumption) | assumption))
          replace q5 := eq_true q5
          go_wp2
          go_meet
          case rel => exact ⟨_, (true), (by first | rfl | (simp; done) | (simp [*]; done)), H', ⟨by first | omega | exact Nat.le_refl _⟩, by repeat (first | exact Drawn0.refl _ | apply Drawn0.step)⟩
        · rw [if_neg c6] at H
          have c6b0 : ((bt a0 0) == 92) = false := beq_eq_false_iff_ne.mpr c6
          have c6b1 : ((bt a0 0) != 92) = true := bne_iff_ne.mpr c6
          have H' := Aside0.mk H
          clear H
          have p5 : 0 ≤ (0 : Int) := (by omega)
          have q5 : 0 < a0.size := (by have : (0 : Int) < (a0.size : Int) := of_decide_eq_true (by first | (with_reducible assumption) | assumption); omega)
          have hx5 : ∀ h : 0 < a0.size, ((a0[0]'h).toNat : Int) = bt a0 0 := bt_at a0 0
          clear p5
          have qi5 : (0 < (a0.size : Int)) = True := eq_true (of_decide_eq_true (by first | (with_reducible assumption) | assumption))
          replace q5 := eq_true q5
          have p7 : 0 ≤ (0 : Int) := (by omega)
          have q7 : 0 < a0.size := (by have : (0 : Int) < (a0.size : Int) := of_decide_eq_true (by first | (with_reducible assumption) | assumption); omega)
          have hx7 : ∀ h : 0 < a0.size, ((a0[0]'h).toNat : Int) = bt a0 0 := bt_at a0 0
          clear p7
          have qi7 : (0 < (a0.size : Int)) = True := eq_true (of_decide_eq_true (by first | (with_reducible assumption) | assumption))
          replace q7 := eq_true q7
          go_wp2
          go_meet
          case rel => exact ⟨_, (((bt a0 0) == 34)), (by first | rfl | (simp; done) | (simp [*]; done)), H', ⟨by first | omega | exact Nat.le_refl _⟩, by repeat (first | exact Drawn0.refl _ | apply Drawn0.step)⟩
      · rw [if_neg c4] at H
        exact absurd H (by simp)
    case rest =>
      clear HC3
      try clear c1
      try clear c2
      try clear c2b0
      try clear c2b1
      try clear p2
      try clear c4
      try clear c4b0
      try clear c4b1
      try clear p5
      try clear q5
      try clear hx5
      try clear qi5
      try clear c6
      try clear c6b0
      try clear c6b1
      try clear p7
      try clear q7
      try clear hx7
      try clear qi7
      try clear p5
      try clear p7
      try clear q5
      try clear q7
      obtain ⟨kq, x16_2, rfl, HA, HJ2, ⟨mc2, rfl⟩⟩ := hcut
      cases kq with
      | zero => exact absurd HA.out (by simp [show_escape.j0])
      | succ kj2 =>
        have H := HA.out
        clear HA
        simp only [show_escape.j0] at H
        by_cases c8 : x16_2 = true
        · subst c8
          have H1 : (if 0 < (a0.size : Int) then (some (bt a0 0, 1, 0)) else (none)) = some (r1, r2, r3) := by rw [if_pos rfl] at H; exact H
          clear H
          have H := H1
          clear H1
          by_cases c9 : 0 < (a0.size : Int)
          · rw [if_pos c9] at H
            have c9b0 : decide (0 < (a0.size : Int)) = true := decide_eq_true c9
            have c9b1 : decide (0 < a0.size) = true := decide_eq_true (by omega)
            clear c9
            simp only [Option.some.injEq, Prod.mk.injEq] at H
            obtain ⟨rfl, rfl, rfl⟩ := H
            have p10 : 0 ≤ (0 : Int) := (by omega)
            have q10 : 0 < a0.size := (by have : (0 : Int) < (a0.size : Int) := of_decide_eq_true (by first | (with_reducible assumption) | assumption); omega)
            have hx10 : ∀ h : 0 < a0.size, ((a0[0]'h).toNat : Int) = bt a0 0 := bt_at a0 0
            clear p10
            have qi10 : (0 < (a0.size : Int)) = True := eq_true (of_decide_eq_true (by first | (with_reducible assumption) | assumption))
            replace q10 := eq_true q10
            go_wp2
            go_ret3
            exact ⟨by first | rfl | (simp; done) | (simp [*]; done), by repeat (first | exact Drawn0.refl _ | apply Drawn0.step)⟩
          · rw [if_neg c9] at H
            exact absurd H (by simp)
        · replace c8 := Bool.eq_false_iff.mpr c8
          subst c8
          have H1 : (if 0 < (a0.size : Int) then ((strings_IndexByte.f (⟨#[97, 98, 116, 110, 118, 102, 114]⟩ : ByteArray) (bt a0 0)).bind fun t125 => (if t125 ≥ 0 then (some ((7 + ((t125) % 256)) % 256, 1, 0)) else (show_escape.l0 kj2 a0 0 0))) else (none)) = some (r1, r2, r3) := by rw [if_neg (show ¬ (false = true) by decide)] at H; exact H
          clear H
          have H := H1
          clear H1
          by_cases c11 : 0 < (a0.size : Int)
          · rw [if_pos c11] at H
            have c11b0 : decide (0 < (a0.size : Int)) = true := decide_eq_true c11
            have c11b1 : decide (0 < a0.size) = true := decide_eq_true (by omega)
            clear c11
            replace H := Option.bind_eq_some_iff.mp H
            obtain ⟨t125, A130, H⟩ := H
            replace H : (if t125 ≥ 0 then (some ((7 + ((t125) % 256)) % 256, 1, 0)) else (show_escape.l0 kj2 a0 0 0)) = some (r1, r2, r3) := H
            have A13 := Aside0.mk A130
            clear A130
            by_cases c14 : t125 ≥ 0
            · rw [if_pos c14] at H
              have c14b0 : decide (0 ≤ t125) = true := decide_eq_true c14
              clear c14
              simp only [Option.some.injEq, Prod.mk.injEq] at H
              obtain ⟨rfl, rfl, rfl⟩ := H
              have p12 : 0 ≤ (0 : Int) := (by omega)
              have q12 : 0 < a0.size := (by have : (0 : Int) < (a0.size : Int) := of_decide_eq_true (by first | (with_reducible assumption) | assumption); omega)
              have hx12 : ∀ h : 0 < a0.size, ((a0[0]'h).toNat : Int) = bt a0 0 := bt_at a0 0
              clear p12
              have qi12 : (0 < (a0.size : Int)) = True := eq_true (of_decide_eq_true (by first | (with_reducible assumption) | assumption))
              replace q12 := eq_true q12
              go_wp2_with (first | ((with_reducible refine gate_callee (f := 19) rfl ?_); refine goesL_ (some 21) rfl rfl Try.func19 (by kernel_rfl) rfl #[.string (⟨#[97, 98, 116, 110, 118, 102, 114]⟩ : ByteArray), .int .u8 (bt a0 0)] rfl (by (try simp only [List.map_toArray, List.map_cons, List.map_nil]); first | done | rfl | (simp only [List.length_drop, List.length_take]; rfl)) ?_; (with_reducible refine (strings_IndexByte.calls (⟨#[97, 98, 116, 110, 118, 102, 114]⟩ : ByteArray) (bt a0 0) t125 _ A13.out).mono ?_); rintro e w' ⟨rfl, ⟨nd, rfl⟩⟩; refine ⟨_, rfl, ?_⟩))
              go_ret3
              exact ⟨by first | rfl | (simp; done) | (simp [*]; done), by repeat (first | exact Drawn0.refl _ | apply Drawn0.step)⟩
            · rw [if_neg c14] at H
              have c14b0 : decide (0 ≤ t125) = false := decide_eq_false c14
              clear c14
              have H' := Aside0.mk H
              clear H
              have p12 : 0 ≤ (0 : Int) := (by omega)
              have q12 : 0 < a0.size := (by have : (0 : Int) < (a0.size : Int) := of_decide_eq_true (by first | (with_reducible assumption) | assumption); omega)
              have hx12 : ∀ h : 0 < a0.size, ((a0[0]'h).toNat : Int) = bt a0 0 := bt_at a0 0
              clear p12
              have qi12 : (0 < (a0.size : Int)) = True := eq_true (of_decide_eq_true (by first | (with_reducible assumption) | assumption))
              replace q12 := eq_true q12
              go_wp2_with (first | ((with_reducible refine gate_callee (f := 19) rfl ?_); refine goesL_ (some 21) rfl rfl Try.func19 (by kernel_rfl) rfl #[.string (⟨#[97, 98, 116, 110, 118, 102, 114]⟩ : ByteArray), .int .u8 (bt a0 0)] rfl (by (try simp only [List.map_toArray, List.map_cons, List.map_nil]); first | done | rfl | (simp only [List.length_drop, List.length_take]; rfl)) ?_; (with_reducible refine (strings_IndexByte.calls (⟨#[97, 98, 116, 110, 118, 102, 114]⟩ : ByteArray) (bt a0 0) t125 _ A13.out).mono ?_); rintro e w' ⟨rfl, ⟨nd, rfl⟩⟩; refine ⟨_, rfl, ?_⟩))
              go_loopg [3, 6] kj2 (fun kq v3 v6 w' => ∃ (x3_2 : Int) (x6_2 : Int), v3 = .int .i64 x3_2 ∧ v6 = .int .i64 x6_2 ∧ Aside0 (show_escape.l0 kq a0 x3_2 x6_2 = some (r1, r2, r3)) ∧ Aside0 (kq ≤ kj2) ∧ Drawn0 w w')
              case atStart => exact ⟨(0), (0), (by first | rfl | (simp; done) | (simp [*]; done)), (by first | rfl | (simp; done) | (simp [*]; done)), H', ⟨Nat.le_refl _⟩, by repeat (first | exact Drawn0.refl _ | apply Drawn0.step)⟩
              case round =>
                clear H'
                try clear c1
                try clear p1
                try clear q1
                try clear hx1
                try clear qi1
                try clear c2
                try clear c2b0
                try clear c2b1
                try clear p2
                try clear c4
                try clear c4b0
                try clear c4b1
                try clear p5
                try clear q5
                try clear hx5
                try clear qi5
                try clear c6
                try clear c6b0
                try clear c6b1
                try clear p7
                try clear q7
                try clear hx7
                try clear qi7
                try clear c8
                try clear c9
                try clear c9b0
                try clear c9b1
                try clear p10
                try clear q10
                try clear hx10
                try clear qi10
                try clear c11
                try clear c11b0
                try clear c11b1
                try clear p12
                try clear q12
                try clear hx12
                try clear qi12
                try clear c14
                try clear c14b0
                try clear p10
                try clear p12
                try clear p2
                try clear p5
                try clear p7
                try clear q10
                try clear q12
                try clear q5
                try clear q7
                obtain ⟨x3_2, x6_2, rfl, rfl, HA, HK2, ⟨m2, rfl⟩⟩ := hrel
                cases gk with
                | zero => exact absurd HA.out (by simp [show_escape.l0])
                | succ k2 =>
                  have H := HA.out
                  clear HA
                  simp only [show_escape.l0] at H
                  by_cases c15 : x3_2 < 3
                  · rw [if_pos c15] at H
                    have c15b0 : decide (x3_2 < 3) = true := decide_eq_true c15
                    clear c15
                    by_cases c16 : x3_2 = (a0.size : Int)
                    · rw [if_pos c16] at H
                      have c16b0 : (x3_2 == (a0.size : Int)) = true := beq_iff_eq.mpr c16
                      have c16b1 : (x3_2 != (a0.size : Int)) = false := bne_eq_false_iff_eq.mpr c16
                      clear c16
                      simp only [Option.some.injEq, Prod.mk.injEq] at H
                      obtain ⟨rfl, rfl, rfl⟩ := H
                      go_wp2
                      go_ret3
                      exact ⟨by first | rfl | (simp; done) | (simp [*]; done), by repeat (first | exact Drawn0.refl _ | apply Drawn0.step)⟩
                    · rw [if_neg c16] at H
                      have c16b0 : (x3_2 == (a0.size : Int)) = false := beq_eq_false_iff_ne.mpr c16
                      have c16b1 : (x3_2 != (a0.size : Int)) = true := bne_iff_ne.mpr c16
                      by_cases c17 : 0 ≤ x3_2
                      · rw [if_pos c17] at H
                        have c17b0 : decide (0 ≤ x3_2) = true := decide_eq_true c17
                        clear c17
                        by_cases c18 : x3_2 < (a0.size : Int)
                        · rw [if_pos c18] at H
                          have c18b0 : decide (x3_2 < (a0.size : Int)) = true := decide_eq_true c18
                          clear c18
                          replace H := Option.bind_eq_some_iff.mp H
                          obtain ⟨t126, A200, H⟩ := H
                          replace H : (if t126 = true then (show_escape.l0 k2 a0 (wrap64 (x3_2 + 1)) (wrap64 ((wrap64 (x6_2 * 8)) + (((bt a0 x3_2) - 48) % 256)))) else (some (0, 0, 10))) = some (r1, r2, r3) := H
                          have A20 := Aside0.mk A200
                          clear A200
                          by_cases c21 : t126 = true
                          · subst c21
                            have H1 : (show_escape.l0 k2 a0 (wrap64 (x3_2 + 1)) (wrap64 ((wrap64 (x6_2 * 8)) + (((bt a0 x3_2) - 48) % 256)))) = some (r1, r2, r3) := by rw [if_pos rfl] at H; exact H
                            clear H
                            have H := H1
                            clear H1
                            have H' := Aside0.mk H
                            clear H
                            have p19 : 0 ≤ (x3_2 : Int) := of_decide_eq_true (by first | (with_reducible assumption) | assumption)
                            have q19 : x3_2 < (a0.size : Int) := of_decide_eq_true (by first | (with_reducible assumption) | assumption)
                            have hx19 := bt_at a0 x3_2
                            replace p19 := eq_true p19
                            replace q19 := eq_true q19
                            go_wp2_with (first | ((with_reducible refine gate_callee (f := 20) rfl ?_); refine goesL_ (some 38) rfl rfl Try.func20 (by kernel_rfl) rfl #[.int .u8 (bt a0 x3_2)] rfl (by (try simp only [List.map_toArray, List.map_cons, List.map_nil]); first | done | rfl | (simp only [List.length_drop, List.length_take]; rfl)) ?_; (with_reducible refine (show_isOctal.calls (bt a0 x3_2) true _ A20.out).mono ?_); rintro e w' ⟨rfl, ⟨nd, rfl⟩⟩; refine ⟨_, rfl, ?_⟩; have p22 : 0 ≤ (x3_2 : Int) := of_decide_eq_true (by first | (with_reducible assumption) | assumption); have q22 : x3_2 < (a0.size : Int) := of_decide_eq_true (by first | (with_reducible assumption) | assumption); have hx22 := bt_at a0 x3_2; replace p22 := eq_true p22; replace q22 := eq_true q22))
                            go_roundg k2
                            case measure => have := HJ2.out; have := HK2.out; omega
                            case rel => exact ⟨(wrap64 (x3_2 + 1)), (wrap64 ((wrap64 (x6_2 * 8)) + (((bt a0 x3_2) - 48) % 256))), (by first | rfl | (simp; done) | (simp [*]; done)), (by first | rfl | (simp; done) | (simp [*]; done)), H', ⟨by have := HJ2.out; have := HK2.out; omega⟩, by repeat (first | exact Drawn0.refl _ | apply Drawn0.step)⟩
                          · replace c21 := Bool.eq_false_iff.mpr c21
                            subst c21
                            have H1 : (some (0, 0, 10)) = some (r1, r2, r3) := by rw [if_neg (show ¬ (false = true) by decide)] at H; exact H
                            clear H
                            have H := H1
                            clear H1
                            simp only [Option.some.injEq, Prod.mk.injEq] at H
                            obtain ⟨rfl, rfl, rfl⟩ := H
                            have p19 : 0 ≤ (x3_2 : Int) := of_decide_eq_true (by first | (with_reducible assumption) | assumption)
                            have q19 : x3_2 < (a0.size : Int) := of_decide_eq_true (by first | (with_reducible assumption) | assumption)
                            have hx19 := bt_at a0 x3_2
                            replace p19 := eq_true p19
                            replace q19 := eq_true q19
                            go_wp2_with (first | ((with_reducible refine gate_callee (f := 20) rfl ?_); refine goesL_ (some 38) rfl rfl Try.func20 (by kernel_rfl) rfl #[.int .u8 (bt a0 x3_2)] rfl (by (try simp only [List.map_toArray, List.map_cons, List.map_nil]); first | done | rfl | (simp only [List.length_drop, List.length_take]; rfl)) ?_; (with_reducible refine (show_isOctal.calls (bt a0 x3_2) false _ A20.out).mono ?_); rintro e w' ⟨rfl, ⟨nd, rfl⟩⟩; refine ⟨_, rfl, ?_⟩))
                            go_ret3
                            exact ⟨by first | rfl | (simp; done) | (simp [*]; done), by repeat (first | exact Drawn0.refl _ | apply Drawn0.step)⟩
                        · rw [if_neg c18] at H
                          exact absurd H (by simp)
                      · rw [if_neg c17] at H
                        exact absurd H (by simp)
                  · rw [if_neg c15] at H
                    have c15b0 : decide (x3_2 < 3) = false := decide_eq_false c15
                    clear c15
                    by_cases c23 : x6_2 > 255
                    · rw [if_pos c23] at H
                      have c23b0 : decide (255 < x6_2) = true := decide_eq_true c23
                      clear c23
                      simp only [Option.some.injEq, Prod.mk.injEq] at H
                      obtain ⟨rfl, rfl, rfl⟩ := H
                      go_wp2
                      go_ret3
                      exact ⟨by first | rfl | (simp; done) | (simp [*]; done), by repeat (first | exact Drawn0.refl _ | apply Drawn0.step)⟩
                    · rw [if_neg c23] at H
                      have c23b0 : decide (255 < x6_2) = false := decide_eq_false c23
                      clear c23
                      simp only [Option.some.injEq, Prod.mk.injEq] at H
                      obtain ⟨rfl, rfl, rfl⟩ := H
                      go_wp2
                      go_ret3
                      exact ⟨by first | rfl | (simp; done) | (simp [*]; done), by repeat (first | exact Drawn0.refl _ | apply Drawn0.step)⟩
          · rw [if_neg c11] at H
            exact absurd H (by simp)

/-! ### show_Unquote: function 6 -/
mutual
def show_Unquote.j0 : Nat → ByteArray → Int → Bool → Option (List Int × Int × Int)
  | 0, _, _, _ => none
  | k + 1, x0, x1, x12 => if x12 = true then (some (([] : List Int), 0, 1)) else (if x1 = (x0.size : Int) then (some (([] : List Int), 0, 9)) else (if 0 ≤ x1 then (if x1 < (x0.size : Int) then (if (bt x0 x1) = 34 then (show_Unquote.l0 k x0 (wrap64 (x1 + 1)) ([] : List Int)) else (some (([] : List Int), 0, 9))) else (none)) else (none)))
def show_Unquote.l0 : Nat → ByteArray → Int → List Int → Option (List Int × Int × Int)
  | 0, _, _, _ => none
  | k + 1, x0, x1, x7 => if x1 < (x0.size : Int) then (if 0 ≤ x1 then (if (bt x0 x1) = 34 then (some (x7, wrap64 (x1 + 1), 0)) else (if (bt x0 x1) = 92 then (if 0 ≤ (wrap64 (x1 + 1)) then (if (wrap64 (x1 + 1)) ≤ (x0.size : Int) then ((show_escape.f k (x0.extract ((wrap64 (x1 + 1)) : Int).toNat x0.size)).bind fun bt127 => (if bt127.2.2 = 0 then (if x7.length < 140737488355328 then (show_Unquote.l0 k x0 (wrap64 ((wrap64 (x1 + 1)) + bt127.2.1)) (x7 ++ [bt127.1])) else (none)) else (some (([] : List Int), 0, bt127.2.2)))) else (none)) else (none)) else (if x7.length < 140737488355328 then (show_Unquote.l0 k x0 (wrap64 (x1 + 1)) (x7 ++ [bt x0 x1])) else (none)))) else (none)) else (some (([] : List Int), 0, 2))
end
def show_Unquote.f (k : Nat) (a0 : ByteArray) (a1 : Int) : Option (List Int × Int × Int) := if a1 < 0 then (show_Unquote.j0 k a0 a1 true) else (show_Unquote.j0 k a0 a1 (decide (a1 > (a0.size : Int))))
theorem show_Unquote.mono_l : ∀ k, (∀ y0 y1 y2, LeO (show_Unquote.j0 k y0 y1 y2) (show_Unquote.j0 (k + 1) y0 y1 y2)) ∧ (∀ y0 y1 y2, LeO (show_Unquote.l0 k y0 y1 y2) (show_Unquote.l0 (k + 1) y0 y1 y2))
  | 0 => ⟨fun _ _ _ r h => by simp [show_Unquote.j0] at h, fun _ _ _ r h => by simp [show_Unquote.l0] at h⟩
  | k + 1 => by
    obtain ⟨ih0, ih1⟩ := show_Unquote.mono_l k
    refine ⟨?_, ?_⟩
    · intro y0 y1 y2
      unfold show_Unquote.j0
      repeat' first
      | (with_reducible exact ih0 _ _ _)
      | (with_reducible exact ih1 _ _ _)
      | (with_reducible exact show_escape.mono _ _)
      | (with_reducible exact LeO.refl _)
      | (with_reducible exact LeO.none _)
      | (with_reducible refine LeO.ite ?_ ?_)
      | (with_reducible refine LeO.bind ?_ (fun _ => ?_))
      | exact ih0 _ _ _
      | exact ih1 _ _ _
      | exact show_escape.mono _ _
      | exact LeO.none _
      | refine LeO.ite ?_ ?_
      | refine LeO.bind ?_ (fun _ => ?_)
    · intro y0 y1 y2
      unfold show_Unquote.l0
      repeat' first
      | (with_reducible exact ih0 _ _ _)
      | (with_reducible exact ih1 _ _ _)
      | (with_reducible exact show_escape.mono _ _)
      | (with_reducible exact LeO.refl _)
      | (with_reducible exact LeO.none _)
      | (with_reducible refine LeO.ite ?_ ?_)
      | (with_reducible refine LeO.bind ?_ (fun _ => ?_))
      | exact ih0 _ _ _
      | exact ih1 _ _ _
      | exact show_escape.mono _ _
      | exact LeO.none _
      | refine LeO.ite ?_ ?_
      | refine LeO.bind ?_ (fun _ => ?_)
theorem show_Unquote.mono : ∀ a0 a1 k, LeO (show_Unquote.f k a0 a1) (show_Unquote.f (k + 1) a0 a1) := by
  intro a0 a1 k
  obtain ⟨ih0, ih1⟩ := show_Unquote.mono_l k
  unfold show_Unquote.f
  repeat' first
      | (with_reducible exact ih0 _ _ _)
      | (with_reducible exact ih1 _ _ _)
      | (with_reducible exact show_escape.mono _ _)
      | (with_reducible exact LeO.refl _)
      | (with_reducible exact LeO.none _)
      | (with_reducible refine LeO.ite ?_ ?_)
      | (with_reducible refine LeO.bind ?_ (fun _ => ?_))
      | exact ih0 _ _ _
      | exact ih1 _ _ _
      | exact show_escape.mono _ _
      | exact LeO.none _
      | refine LeO.ite ?_ ?_
      | refine LeO.bind ?_ (fun _ => ?_)
set_option maxHeartbeats 8000000 in
set_option maxRecDepth 100000 in
theorem show_Unquote.calls (k : Nat) (a0 : ByteArray) (a1 : Int) (r1 : List Int) (r2 : Int) (r3 : Int) (w : World) (h : show_Unquote.f k a0 a1 = some (r1, r2, r3)) :
    Calls Try.prog 6 #[.string a0, .int .i64 a1] w fun e w' => ∃ v0_ : Value, e = .returned (.tuple #[v0_, .int .i64 r2, .int .i64 r3]) ∧ Kd.R (Kd.int .u8) 5 w' w.heap.size (fun _ => True) v0_ r1 ∧ Below w.heap.size w w' := by
  have HB := Aside0.mk (Below.refl w.heap.size w)
  have H : (if a1 < 0 then (show_Unquote.j0 k a0 a1 true) else (show_Unquote.j0 k a0 a1 (decide (a1 > (a0.size : Int))))) = some (r1, r2, r3) := h
  clear h
  have HC3 := Aside0.mk H
  clear H
  go_enter Try.func6, Try.ntmps6
  go_upto_region 1 with (fail)
  go_cut [12] (fun v12 wc => ∃ (kq : Nat) (x12_2 : Bool), v12 = .bool x12_2 ∧ Aside0 (show_Unquote.j0 kq a0 a1 x12_2 = some (r1, r2, r3)) ∧ Aside0 (kq ≤ k) ∧ Aside0 (Below w.heap.size w wc))
  case first =>
    have H := HC3.out
    clear HC3
    by_cases c4 : a1 < 0
    · rw [if_pos c4] at H
      have c4b0 : decide (a1 < 0) = true := decide_eq_true c4
      clear c4
      (first | rw [c4b0] | (simp only [i64_w, i32_w]; rw [c4b0]) | skip)
      have H' := Aside0.mk H
      clear H
      go_wp2
      go_meet
      case rel => exact ⟨_, (true), (by first | rfl | (simp; done) | (simp [*]; done)), H', ⟨by first | omega | exact Nat.le_refl _⟩, ⟨by repeat (first | (with_reducible first | exact HB.out | apply below_alloc | apply pw_below_drewN | apply below_drew1) | exact HB.out)⟩⟩
    · rw [if_neg c4] at H
      have c4b0 : decide (a1 < 0) = false := decide_eq_false c4
      clear c4
      (first | rw [c4b0] | (simp only [i64_w, i32_w]; rw [c4b0]) | skip)
      have H' := Aside0.mk H
      clear H
      go_wp2
      go_meet
      case rel => exact ⟨_, (decide (a1 > (a0.size : Int))), (by first | rfl | (simp; done) | (simp [*]; done)), H', ⟨by first | omega | exact Nat.le_refl _⟩, ⟨by repeat (first | (with_reducible first | exact HB.out | apply below_alloc | apply pw_below_drewN | apply below_drew1) | exact HB.out)⟩⟩
  case rest =>
    clear HC3
    try clear p2
    try clear c4
    try clear c4b0
    obtain ⟨kq, x12_2, rfl, HA, HJ2, HB⟩ := hcut
    cases kq with
    | zero => exact absurd HA.out (by simp [show_Unquote.j0])
    | succ kj2 =>
      have H := HA.out
      clear HA
      simp only [show_Unquote.j0] at H
      by_cases c5 : x12_2 = true
      · subst c5
        have H1 : (some (([] : List Int), 0, 1)) = some (r1, r2, r3) := by rw [if_pos rfl] at H; exact H
        clear H
        have H := H1
        clear H1
        simp only [Option.some.injEq, Prod.mk.injEq] at H
        obtain ⟨rfl, rfl, rfl⟩ := H
        go_wp2
        go_ret3
        exact ⟨_, by first | rfl | (simp [errW_none, errW_some] <;> rfl) | (simp [*, errW_none, errW_some] <;> rfl), by first | exact Kd.R_nil _ _ _ _ _ | exact Kd.N_nil _ _ _ _ _ | exact Kd.V_nil _ _ _ _ _ | exact Kd.Q_nil _ _ _ _ _ | exact Kd.S_nil _ _ _ _ _, by repeat (first | (with_reducible first | exact HB.out | apply below_alloc | apply pw_below_drewN | apply below_drew1) | exact HB.out)⟩
      · replace c5 := Bool.eq_false_iff.mpr c5
        subst c5
        have H1 : (if a1 = (a0.size : Int) then (some (([] : List Int), 0, 9)) else (if 0 ≤ a1 then (if a1 < (a0.size : Int) then (if (bt a0 a1) = 34 then (show_Unquote.l0 kj2 a0 (wrap64 (a1 + 1)) ([] : List Int)) else (some (([] : List Int), 0, 9))) else (none)) else (none))) = some (r1, r2, r3) := by rw [if_neg (show ¬ (false = true) by decide)] at H; exact H
        clear H
        have H := H1
        clear H1
        by_cases c6 : a1 = (a0.size : Int)
        · rw [if_pos c6] at H
          have c6b0 : (a1 == (a0.size : Int)) = true := beq_iff_eq.mpr c6
          have c6b1 : (a1 != (a0.size : Int)) = false := bne_eq_false_iff_eq.mpr c6
          clear c6
          simp only [Option.some.injEq, Prod.mk.injEq] at H
          obtain ⟨rfl, rfl, rfl⟩ := H
          go_wp2
          go_ret3
          exact ⟨_, by first | rfl | (simp [errW_none, errW_some] <;> rfl) | (simp [*, errW_none, errW_some] <;> rfl), by first | exact Kd.R_nil _ _ _ _ _ | exact Kd.N_nil _ _ _ _ _ | exact Kd.V_nil _ _ _ _ _ | exact Kd.Q_nil _ _ _ _ _ | exact Kd.S_nil _ _ _ _ _, by repeat (first | (with_reducible first | exact HB.out | apply below_alloc | apply pw_below_drewN | apply below_drew1) | exact HB.out)⟩
        · rw [if_neg c6] at H
          have c6b0 : (a1 == (a0.size : Int)) = false := beq_eq_false_iff_ne.mpr c6
          have c6b1 : (a1 != (a0.size : Int)) = true := bne_iff_ne.mpr c6
          by_cases c7 : 0 ≤ a1
          · rw [if_pos c7] at H
            have c7b0 : decide (0 ≤ a1) = true := decide_eq_true c7
            clear c7
            by_cases c8 : a1 < (a0.size : Int)
            · rw [if_pos c8] at H
              have c8b0 : decide (a1 < (a0.size : Int)) = true := decide_eq_true c8
              clear c8
              by_cases c10 : (bt a0 a1) = 34
              · rw [if_pos c10] at H
                have c10b0 : ((bt a0 a1) == 34) = true := beq_iff_eq.mpr c10
                have c10b1 : ((bt a0 a1) != 34) = false := bne_eq_false_iff_eq.mpr c10
                clear c10
                have H' := Aside0.mk H
                clear H
                have p9 : 0 ≤ (a1 : Int) := of_decide_eq_true (by first | (with_reducible assumption) | assumption)
                have q9 : a1 < (a0.size : Int) := of_decide_eq_true (by first | (with_reducible assumption) | assumption)
                have hx9 := bt_at a0 a1
                replace p9 := eq_true p9
                replace q9 := eq_true q9
                go_wp2
                go_loopg [1, 7] kj2 (fun kq v1 v7 w' => ∃ (x1_2 : Int) (x7_2 : List Int), v1 = .int .i64 x1_2 ∧ Aside0 (show_Unquote.l0 kq a0 x1_2 x7_2 = some (r1, r2, r3)) ∧ Aside0 (kq ≤ kj2) ∧ Aside0 (Kd.R (Kd.int .u8) 5 w' w.heap.size (fun _ => True) v7 x7_2) ∧ Aside0 (Below w.heap.size w w'))
                case atStart => exact ⟨(wrap64 (a1 + 1)), (([] : List Int)), (by first | rfl | (simp; done) | (simp [*]; done)), H', ⟨Nat.le_refl _⟩, ⟨by first | exact Kd.R_nil _ _ _ _ _ | exact Kd.N_nil _ _ _ _ _ | exact Kd.V_nil _ _ _ _ _ | exact Kd.Q_nil _ _ _ _ _ | exact Kd.S_nil _ _ _ _ _⟩, ⟨by repeat (first | (with_reducible first | exact HB.out | apply below_alloc | apply pw_below_drewN | apply below_drew1) | exact HB.out)⟩⟩
                case round =>
                  clear H'
                  try clear c1
                  try clear p2
                  try clear c4
                  try clear c4b0
                  try clear c5
                  try clear c6
                  try clear c6b0
                  try clear c6b1
                  try clear p6
                  try clear c7
                  try clear c7b0
                  try clear c8
                  try clear c8b0
                  try clear p9
                  try clear q9
                  try clear hx9
                  try clear c10
                  try clear c10b0
                  try clear c10b1
                  try clear p2
                  try clear p9
                  try clear q9
                  obtain ⟨x1_2, x7_2, rfl, HA, HK2, HO_7, HB⟩ := hrel
                  cases gk with
                  | zero => exact absurd HA.out (by simp [show_Unquote.l0])
                  | succ k2 =>
                    have H := HA.out
                    clear HA
                    simp only [show_Unquote.l0] at H
                    by_cases c11 : x1_2 < (a0.size : Int)
                    · rw [if_pos c11] at H
                      have c11b0 : decide (x1_2 < (a0.size : Int)) = true := decide_eq_true c11
                      clear c11
                      by_cases c12 : 0 ≤ x1_2
                      · rw [if_pos c12] at H
                        have c12b0 : decide (0 ≤ x1_2) = true := decide_eq_true c12
                        clear c12
                        by_cases c14 : (bt a0 x1_2) = 34
                        · rw [if_pos c14] at H
                          have c14b0 : ((bt a0 x1_2) == 34) = true := beq_iff_eq.mpr c14
                          have c14b1 : ((bt a0 x1_2) != 34) = false := bne_eq_false_iff_eq.mpr c14
                          clear c14
                          simp only [Option.some.injEq, Prod.mk.injEq] at H
                          obtain ⟨rfl, rfl, rfl⟩ := H
                          have p13 : 0 ≤ (x1_2 : Int) := of_decide_eq_true (by first | (with_reducible assumption) | assumption)
                          have q13 : x1_2 < (a0.size : Int) := of_decide_eq_true (by first | (with_reducible assumption) | assumption)
                          have hx13 := bt_at a0 x1_2
                          replace p13 := eq_true p13
                          replace q13 := eq_true q13
                          go_wp2
                          go_ret3
                          exact ⟨_, by first | rfl | (simp [errW_none, errW_some] <;> rfl) | (simp [*, errW_none, errW_some] <;> rfl), by (with_reducible repeat (first | apply Kd.R_alloc | apply Kd.R_drewN | apply Kd.R_drew)); exact HO_7.out, by repeat (first | (with_reducible first | exact HB.out | apply below_alloc | apply pw_below_drewN | apply below_drew1) | exact HB.out)⟩
                        · rw [if_neg c14] at H
                          have c14b0 : ((bt a0 x1_2) == 34) = false := beq_eq_false_iff_ne.mpr c14
                          have c14b1 : ((bt a0 x1_2) != 34) = true := bne_iff_ne.mpr c14
                          by_cases c15 : (bt a0 x1_2) = 92
                          · rw [if_pos c15] at H
                            have c15b0 : ((bt a0 x1_2) == 92) = true := beq_iff_eq.mpr c15
                            have c15b1 : ((bt a0 x1_2) != 92) = false := bne_eq_false_iff_eq.mpr c15
                            clear c15
                            obtain ⟨ji16, hji16⟩ : ∃ j_ : Int, (wrap64 (x1_2 + 1)) = j_ := ⟨_, rfl⟩
                            replace H : (if 0 ≤ (ji16) then (if (ji16) ≤ (a0.size : Int) then ((show_escape.f k2 (a0.extract ((ji16) : Int).toNat a0.size)).bind fun bt127 => (if bt127.2.2 = 0 then (if x7_2.length < 140737488355328 then (show_Unquote.l0 k2 a0 (wrap64 ((ji16) + bt127.2.1)) (x7_2 ++ [bt127.1])) else (none)) else (some (([] : List Int), 0, bt127.2.2)))) else (none)) else (none)) = some (r1, r2, r3) := by first | (rw [hji16] at H; exact H) | (simp only [hji16] at H ⊢; exact H)
                            have hji16w : (IntKind.i64.wrap (x1_2 + 1)) = ji16 := (i64_w _).trans hji16
                            by_cases c17 : 0 ≤ (ji16)
                            · rw [if_pos c17] at H
                              have c17b0 := eq_true c17
                              have c17b1 : decide (0 ≤ (ji16)) = true := decide_eq_true c17
                              clear c17
                              by_cases c18 : (ji16) ≤ (a0.size : Int)
                              · rw [if_pos c18] at H
                                have c18b0 := eq_true c18
                                have c18b1 : decide ((ji16) ≤ (a0.size : Int)) = true := decide_eq_true c18
                                clear c18
                                replace H := Option.bind_eq_some_iff.mp H
                                obtain ⟨⟨t127, t128, t129⟩, A190, H⟩ := H
                                replace H : (if t129 = 0 then (if x7_2.length < 140737488355328 then (show_Unquote.l0 k2 a0 (wrap64 ((ji16) + t128)) (x7_2 ++ [t127])) else (none)) else (some (([] : List Int), 0, t129))) = some (r1, r2, r3) := H
                                have A19 := Aside0.mk A190
                                clear A190
                                by_cases c20 : t129 = 0
                                · rw [if_pos c20] at H
                                  have c20b0 : (t129 == 0) = true := beq_iff_eq.mpr c20
                                  have c20b1 : (t129 != 0) = false := bne_eq_false_iff_eq.mpr c20
                                  clear c20
                                  by_cases c21 : x7_2.length < 140737488355328
                                  · rw [if_pos c21] at H
                                    have LMc21 := Aside0.mk c21
                                    clear c21
                                    obtain ⟨y130, hy130⟩ : ∃ y_ : List Int, y_ = (x7_2 ++ [t127]) := ⟨_, rfl⟩
                                    replace H : (show_Unquote.l0 k2 a0 (wrap64 ((ji16) + t128)) y130) = some (r1, r2, r3) := by first | (rw [hy130]; with_reducible exact H) | (have H2_ := (Option.bind_some _ _).symm.trans H; rw [hy130]; with_reducible exact H2_) | (have H2_ := (Option.bind_some _ _).symm.trans H; with_reducible exact H2_) | with_reducible exact H | (rw [hy130]; exact H) | exact H
                                    have Ny130 := Aside0.mk hy130
                                    clear hy130
                                    have H' := Aside0.mk H
                                    clear H
                                    have p13 : 0 ≤ (x1_2 : Int) := of_decide_eq_true (by first | (with_reducible assumption) | assumption)
                                    have q13 : x1_2 < (a0.size : Int) := of_decide_eq_true (by first | (with_reducible assumption) | assumption)
                                    have hx13 := bt_at a0 x1_2
                                    replace p13 := eq_true p13
                                    replace q13 := eq_true q13
                                    go_wp2_with (first | ((with_reducible refine gate_callee (f := 15) rfl ?_); refine goesL_ (some 58) rfl rfl Try.func15 (by kernel_rfl) rfl #[.string (a0.extract ((ji16) : Int).toNat a0.size)] rfl (by (try simp only [List.map_toArray, List.map_cons, List.map_nil]); first | done | (simp only [hji16]; rfl) | rfl | (simp only [List.length_drop, List.length_take]; rfl)) ?_; (with_reducible refine (show_escape.calls k2 (a0.extract ((ji16) : Int).toNat a0.size) t127 t128 t129 _ A19.out).mono ?_); rintro e w' ⟨rfl, ⟨nd, rfl⟩⟩; refine ⟨_, rfl, ?_⟩) | ((with_reducible refine gate_builtin (b := .append) (xs := #[.tmp 65, .tmp 67]) rfl ?_); (try (refine gate_guard (by rfl) ?_; dsimp only)); at_builtin; refine Kd.R_append (Kd.int .u8) (w0 := w) w.heap.size rfl (.tmp 65) (.tmp 67) 22 5 (.int .u8 0) 1 rfl Try.underlying22 info5 rfl (by decide) (by omega) u7 x7_2 t127 [.int .u8 t127] (fun _ => True) (fun _ => False) rfl rfl ?aP (fun _ hk => hk.elim) ?aF ?aO ?aB ?aS ?aL ?_; (case aP => exact rfl); (case aB => exact (by repeat (first | (with_reducible first | exact HB.out | apply below_alloc | apply pw_below_drewN | apply below_drew1) | exact HB.out))); (case aF => exact (fun _ _ => trivial)); (case aO => exact (by (with_reducible repeat (first | apply Kd.R_alloc | apply Kd.R_drewN | apply Kd.R_drew)); exact HO_7.out)); (case aS => exact (below_size (by repeat (first | (with_reducible first | exact HB.out | apply below_alloc | apply pw_below_drewN | apply below_drew1) | exact HB.out)))); (case aL => have := LMc21.out; omega); intro v131 w22 ho hb hg hat; rw [← Ny130.out] at ho; have n0_ := Aside0.mk (hb); have n1_ := Aside0.mk (ho); clear HB; clear HO_7; have HB := n0_; have HO132 := n1_; clear n0_ n1_; clear ho hb hg hat))
                                    go_roundg k2
                                    case measure => have := HJ2.out; have := HK2.out; omega
                                    case rel => exact ⟨(wrap64 ((ji16) + t128)), (y130), (by first | rfl | (simp; done) | (simp only [← hji16] <;> (first | rfl | simp)) | (simp [*]; done)), H', ⟨by have := HJ2.out; have := HK2.out; omega⟩, ⟨by (with_reducible repeat (first | apply Kd.R_alloc | apply Kd.R_drewN | apply Kd.R_drew)); exact HO132.out⟩, ⟨by repeat (first | (with_reducible first | exact HB.out | apply below_alloc | apply pw_below_drewN | apply below_drew1) | exact HB.out)⟩⟩
                                  · rw [if_neg c21] at H
                                    exact absurd H (by simp)
                                · rw [if_neg c20] at H
                                  have c20b0 : (t129 == 0) = false := beq_eq_false_iff_ne.mpr c20
                                  have c20b1 : (t129 != 0) = true := bne_iff_ne.mpr c20
                                  simp only [Option.some.injEq, Prod.mk.injEq] at H
                                  obtain ⟨rfl, rfl, rfl⟩ := H
                                  have p13 : 0 ≤ (x1_2 : Int) := of_decide_eq_true (by first | (with_reducible assumption) | assumption)
                                  have q13 : x1_2 < (a0.size : Int) := of_decide_eq_true (by first | (with_reducible assumption) | assumption)
                                  have hx13 := bt_at a0 x1_2
                                  replace p13 := eq_true p13
                                  replace q13 := eq_true q13
                                  go_wp2_with (first | ((with_reducible refine gate_callee (f := 15) rfl ?_); refine goesL_ (some 58) rfl rfl Try.func15 (by kernel_rfl) rfl #[.string (a0.extract ((ji16) : Int).toNat a0.size)] rfl (by (try simp only [List.map_toArray, List.map_cons, List.map_nil]); first | done | (simp only [hji16]; rfl) | rfl | (simp only [List.length_drop, List.length_take]; rfl)) ?_; (with_reducible refine (show_escape.calls k2 (a0.extract ((ji16) : Int).toNat a0.size) t127 t128 t129 _ A19.out).mono ?_); rintro e w' ⟨rfl, ⟨nd, rfl⟩⟩; refine ⟨_, rfl, ?_⟩))
                                  go_ret3
                                  exact ⟨_, by first | rfl | (simp [errW_none, errW_some] <;> rfl) | (simp only [← hji16]; first | rfl | (simp [errW_none, errW_some] <;> rfl)) | (simp [*, errW_none, errW_some] <;> rfl), by first | exact Kd.R_nil _ _ _ _ _ | exact Kd.N_nil _ _ _ _ _ | exact Kd.V_nil _ _ _ _ _ | exact Kd.Q_nil _ _ _ _ _ | exact Kd.S_nil _ _ _ _ _, by repeat (first | (with_reducible first | exact HB.out | apply below_alloc | apply pw_below_drewN | apply below_drew1) | exact HB.out)⟩
                              · rw [if_neg c18] at H
                                exact absurd H (by simp)
                            · rw [if_neg c17] at H
                              exact absurd H (by simp)
                          · rw [if_neg c15] at H
                            have c15b0 : ((bt a0 x1_2) == 92) = false := beq_eq_false_iff_ne.mpr c15
                            have c15b1 : ((bt a0 x1_2) != 92) = true := bne_iff_ne.mpr c15
                            by_cases c23 : x7_2.length < 140737488355328
                            · rw [if_pos c23] at H
                              have LMc23 := Aside0.mk c23
                              clear c23
                              obtain ⟨y133, hy133⟩ : ∃ y_ : List Int, y_ = (x7_2 ++ [bt a0 x1_2]) := ⟨_, rfl⟩
                              replace H : (show_Unquote.l0 k2 a0 (wrap64 (x1_2 + 1)) y133) = some (r1, r2, r3) := by first | (rw [hy133]; with_reducible exact H) | (have H2_ := (Option.bind_some _ _).symm.trans H; rw [hy133]; with_reducible exact H2_) | (have H2_ := (Option.bind_some _ _).symm.trans H; with_reducible exact H2_) | with_reducible exact H | (rw [hy133]; exact H) | exact H
                              have Ny133 := Aside0.mk hy133
                              clear hy133
                              have H' := Aside0.mk H
                              clear H
                              have p13 : 0 ≤ (x1_2 : Int) := of_decide_eq_true (by first | (with_reducible assumption) | assumption)
                              have q13 : x1_2 < (a0.size : Int) := of_decide_eq_true (by first | (with_reducible assumption) | assumption)
                              have hx13 := bt_at a0 x1_2
                              replace p13 := eq_true p13
                              replace q13 := eq_true q13
                              go_wp2_with (first | ((with_reducible refine gate_builtin (b := .append) (xs := #[.tmp 44, .tmp 46]) rfl ?_); (try (refine gate_guard (by rfl) ?_; dsimp only)); at_builtin; refine Kd.R_append (Kd.int .u8) (w0 := w) w.heap.size rfl (.tmp 44) (.tmp 46) 22 5 (.int .u8 0) 1 rfl Try.underlying22 info5 rfl (by decide) (by omega) u7 x7_2 (bt a0 x1_2) [.int .u8 (bt a0 x1_2)] (fun _ => True) (fun _ => False) rfl rfl ?aP (fun _ hk => hk.elim) ?aF ?aO ?aB ?aS ?aL ?_; (case aP => exact rfl); (case aB => exact (by repeat (first | (with_reducible first | exact HB.out | apply below_alloc | apply pw_below_drewN | apply below_drew1) | exact HB.out))); (case aF => exact (fun _ _ => trivial)); (case aO => exact (by (with_reducible repeat (first | apply Kd.R_alloc | apply Kd.R_drewN | apply Kd.R_drew)); exact HO_7.out)); (case aS => exact (below_size (by repeat (first | (with_reducible first | exact HB.out | apply below_alloc | apply pw_below_drewN | apply below_drew1) | exact HB.out)))); (case aL => have := LMc23.out; omega); intro v134 w24 ho hb hg hat; rw [← Ny133.out] at ho; have n0_ := Aside0.mk (hb); have n1_ := Aside0.mk (ho); clear HB; clear HO_7; have HB := n0_; have HO135 := n1_; clear n0_ n1_; clear ho hb hg hat))
                              go_roundg k2
                              case measure => have := HJ2.out; have := HK2.out; omega
                              case rel => exact ⟨(wrap64 (x1_2 + 1)), (y133), (by first | rfl | (simp; done) | (simp [*]; done)), H', ⟨by have := HJ2.out; have := HK2.out; omega⟩, ⟨by (with_reducible repeat (first | apply Kd.R_alloc | apply Kd.R_drewN | apply Kd.R_drew)); exact HO135.out⟩, ⟨by repeat (first | (with_reducible first | exact HB.out | apply below_alloc | apply pw_below_drewN | apply below_drew1) | exact HB.out)⟩⟩
                            · rw [if_neg c23] at H
                              exact absurd H (by simp)
                      · rw [if_neg c12] at H
                        exact absurd H (by simp)
                    · rw [if_neg c11] at H
                      have c11b0 : decide (x1_2 < (a0.size : Int)) = false := decide_eq_false c11
                      clear c11
                      simp only [Option.some.injEq, Prod.mk.injEq] at H
                      obtain ⟨rfl, rfl, rfl⟩ := H
                      go_wp2
                      go_ret3
                      exact ⟨_, by first | rfl | (simp [errW_none, errW_some] <;> rfl) | (simp [*, errW_none, errW_some] <;> rfl), by first | exact Kd.R_nil _ _ _ _ _ | exact Kd.N_nil _ _ _ _ _ | exact Kd.V_nil _ _ _ _ _ | exact Kd.Q_nil _ _ _ _ _ | exact Kd.S_nil _ _ _ _ _, by repeat (first | (with_reducible first | exact HB.out | apply below_alloc | apply pw_below_drewN | apply below_drew1) | exact HB.out)⟩
              · rw [if_neg c10] at H
                have c10b0 : ((bt a0 a1) == 34) = false := beq_eq_false_iff_ne.mpr c10
                have c10b1 : ((bt a0 a1) != 34) = true := bne_iff_ne.mpr c10
                simp only [Option.some.injEq, Prod.mk.injEq] at H
                obtain ⟨rfl, rfl, rfl⟩ := H
                have p9 : 0 ≤ (a1 : Int) := of_decide_eq_true (by first | (with_reducible assumption) | assumption)
                have q9 : a1 < (a0.size : Int) := of_decide_eq_true (by first | (with_reducible assumption) | assumption)
                have hx9 := bt_at a0 a1
                replace p9 := eq_true p9
                replace q9 := eq_true q9
                go_wp2
                go_ret3
                exact ⟨_, by first | rfl | (simp [errW_none, errW_some] <;> rfl) | (simp [*, errW_none, errW_some] <;> rfl), by first | exact Kd.R_nil _ _ _ _ _ | exact Kd.N_nil _ _ _ _ _ | exact Kd.V_nil _ _ _ _ _ | exact Kd.Q_nil _ _ _ _ _ | exact Kd.S_nil _ _ _ _ _, by repeat (first | (with_reducible first | exact HB.out | apply below_alloc | apply pw_below_drewN | apply below_drew1) | exact HB.out)⟩
            · rw [if_neg c8] at H
              exact absurd H (by simp)
          · rw [if_neg c7] at H
            exact absurd H (by simp)

end Go.Proofs.Ytiohajjdlcmhnaa.PShowQuotes
