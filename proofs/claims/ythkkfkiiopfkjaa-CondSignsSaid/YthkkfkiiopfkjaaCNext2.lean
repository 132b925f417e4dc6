import Derived.Test.YthkkfkiiopfkjaaCNext
import Derived.Test.YthkkfkiiopfkjaaPCondSignsx2
import Derived.Test.YthkkfkiiopfkjaaShelf
import Derived.Lib.ConvBytes
set_option linter.unusedVariables false
set_option linter.unusedSimpArgs false
namespace Go.Proofs.Ythkkfkiiopfkjaa.L4
open Go.RowKit Go.Proofs.YthkkfkiiopfkjaaW.PrintWords

theorem below_drawn0 {w w1 : World} (h : Drawn0 w w1) : Below w.heap.size w w1 := by
  obtain ⟨n, rfl⟩ := h
  exact ⟨rfl, rfl, rfl, Nat.le_refl _, fun _ _ => rfl⟩

set_option maxRecDepth 100000 in
set_option maxHeartbeats 4000000 in
theorem next_end (G : Nat) (s : ByteArray) (i0 i : Nat) (k p n : Int) (q : ByteArray) (d : Int) (w : World) (hs : s.size ≤ 100000) (h : PS G s i0 k p n q d w)
    (h0 : i0 ≤ i) (hsp : ∀ x, i0 ≤ x → x < i → bt s (x : Nat) = 32) (hi : i = s.size) :
    Calls Try.prog 11 #[.pointer (some ⟨G, 0, none⟩)] w fun e w' => e = .returned (.tuple #[]) ∧ PS G s i 0 i 0 ⟨#[]⟩ d w' ∧ Kp G w w' := by
  go_enter Try.func11, Try.ntmps11
  go_wp2_with fail
  go_loopw [] (fun wr => ∃ x : Nat, i0 ≤ x ∧ x ≤ i ∧ Aside0 (PS G s x k p n q d wr) ∧ Aside0 (Kp G w wr)) (fun wr => i - (intOf ((wr.cell? ⟨G, 1, none⟩).getD undef)).toNat)
  case atStart => exact ⟨i0, Nat.le_refl _, h0, ⟨h⟩, ⟨Kp.refl _ _⟩⟩
  case round =>
    obtain ⟨x, hx0, hx1, hP, hK⟩ := hrel
    have c0 := hP.out.c0
    have c1 := hP.out.c1
    have f1 := hP.out.fz 1
    by_cases hxi : x < i
    · have hb : ∀ h : x < s.size, ((s[x]'h).toNat : Int) = 32 := fun h => (bt_at s x h).trans (hsp x hx0 hxi)
      have q1 : (x < s.size) = True := eq_true (by omega)
      have q2 : ((x : Int) < (s.size : Int)) = True := eq_true (by omega)
      go_wp2_with fail
      go_region
      go_wp2_with fail
      have hP1 := (hP.out.set1 ((x : Int) + 1)).drew
      have hK1 := (hK.out.set 1 (.int .i64 ((x : Int) + 1))).drew
      go_roundw
      case rel => exact ⟨x + 1, by omega, by omega, ⟨hP1⟩, ⟨hK1⟩⟩
      case measure => rw [hP1.c1, c1]; simp [intOf]; omega
    · obtain rfl : x = i := by omega
      have c2 := hP.out.c2
      have c3 := hP.out.c3
      have c4 := hP.out.c4
      have c5 := hP.out.c5
      have f2 := hP.out.fz 2
      have f3 := hP.out.fz 3
      have f4 := hP.out.fz 4
      have f5 := hP.out.fz 5
      have q2 : ((x : Int) < (s.size : Int)) = False := eq_false (by omega)
      have hne : ((x : Int) == (s.size : Int)) = true := by simp; omega
      go_wp2_with fail
      go_region
      go_wp2_with fail
      have hP2 := ((((hP.out.set2 0).set3 (s.size : Int)).set4 0).set5 ⟨#[]⟩).drew
      have hK2 := ((((hK.out.set 2 (.int .i64 0)).set 3 (.int .i64 s.size)).set 4 (.int .i64 0)).set 5 (.string ⟨#[]⟩)).drew
      have e1 : (x : Int) = (s.size : Int) := by omega
      rw [e1] at hP2
      first
        | go_end0
        | refine bodyPost_ret (results_none rfl _ _ _) rfl ?_
      rw [e1]
      exact ⟨rfl, hP2, hK2⟩
set_option maxRecDepth 100000 in
set_option maxHeartbeats 4000000 in
theorem next_quote (G : Nat) (s : ByteArray) (i0 i : Nat) (b : List Int) (t1 K : Nat) (k p n : Int) (q : ByteArray) (d : Int) (w : World) (hs : s.size ≤ 100000) (h : PS G s i0 k p n q d w)
    (h0 : i0 ≤ i) (hsp : ∀ x, i0 ≤ x → x < i → bt s (x : Nat) = 32) (hi : i < s.size) (hc : bt s (i : Nat) = 34) (hb0 : ∀ x ∈ b, 0 ≤ x ∧ x ≤ 255) (hu : PCondSigns.show_Unquote.f K s (i : Int) = some (b, (t1 : Int), 0)) :
    Calls Try.prog 11 #[.pointer (some ⟨G, 0, none⟩)] w fun e w' => e = .returned (.tuple #[]) ∧ PS G s t1 3 i 0 (strOfNums b) d w' ∧ Kp G w w' := by
  go_enter Try.func11, Try.ntmps11
  go_wp2_with fail
  go_loopw [] (fun wr => ∃ x : Nat, i0 ≤ x ∧ x ≤ i ∧ Aside0 (PS G s x k p n q d wr) ∧ Aside0 (Kp G w wr)) (fun wr => i - (intOf ((wr.cell? ⟨G, 1, none⟩).getD undef)).toNat)
  case atStart => exact ⟨i0, Nat.le_refl _, h0, ⟨h⟩, ⟨Kp.refl _ _⟩⟩
  case round =>
    obtain ⟨x, hx0, hx1, hP, hK⟩ := hrel
    have c0 := hP.out.c0
    have c1 := hP.out.c1
    have f1 := hP.out.fz 1
    by_cases hxi : x < i
    · have hb : ∀ h : x < s.size, ((s[x]'h).toNat : Int) = 32 := fun h => (bt_at s x h).trans (hsp x hx0 hxi)
      have q1 : (x < s.size) = True := eq_true (by omega)
      have q2 : ((x : Int) < (s.size : Int)) = True := eq_true (by omega)
      go_wp2_with fail
      go_region
      go_wp2_with fail
      have hP1 := (hP.out.set1 ((x : Int) + 1)).drew
      have hK1 := (hK.out.set 1 (.int .i64 ((x : Int) + 1))).drew
      go_roundw
      case rel => exact ⟨x + 1, by omega, by omega, ⟨hP1⟩, ⟨hK1⟩⟩
      case measure => rw [hP1.c1, c1]; simp [intOf]; omega
    · obtain rfl : x = i := by omega
      have c2 := hP.out.c2
      have c3 := hP.out.c3
      have c4 := hP.out.c4
      have c5 := hP.out.c5
      have f2 := hP.out.fz 2
      have f3 := hP.out.fz 3
      have f4 := hP.out.fz 4
      have f5 := hP.out.fz 5
      have hb := bt_at s x
      simp only [Int.toNat_natCast] at hb
      rw [hc] at hb
      have q1 : (x < s.size) = True := eq_true (by omega)
      have q2 : ((x : Int) < (s.size : Int)) = True := eq_true (by omega)
      have hne : ((x : Int) == (s.size : Int)) = false := by simp; omega
      go_wp2_with fail
      go_region
      have HP := Aside0.mk hP.out.drew
      have HK := Aside0.mk hK.out.drew
      clear c0 c1 c2 c3 c4 c5 f1 f2 f3 f4 f5 hP hK
      generalize wr.drew = w1 at *
      have c0 := HP.out.c0
      have c1 := HP.out.c1
      go_wp2_with (go_at_call 18; refine (PCondSigns.show_Unquote.calls K s (x : Int) b (t1 : Int) 0 _ hu).mono ?_; rintro e w2 ⟨v0, rfl, hR, hB⟩; obtain ⟨A, cc, rfl, hl, hC⟩ := Kd.R_reads hR; have hcv := Kd.C_string (P := Try.prog) (src := 23) (dst := 9) (e := 5) (c := cc) Try.underlying23 Try.underlying5 Try.underlying9 hC; have HP2 := Aside0.mk (HP.out.below hB); have c1 := HP2.out.c1; have c2 := HP2.out.c2; have c3 := HP2.out.c3; have c4 := HP2.out.c4; have c5 := HP2.out.c5; have f1 := HP2.out.fz 1; have f2 := HP2.out.fz 2; have f3 := HP2.out.fz 3; have f4 := HP2.out.fz 4; have f5 := HP2.out.fz 5; clear hR hC)
      have hP2 := ((((HP2.out.set1 (t1 : Int)).set2 3).set3 (x : Int)).set4 0).set5 (strOfNums b)
      have hK2 := (((((HK.out.trans (Kp.of_below hB)).set 1 (.int .i64 t1)).set 2 (.int .i64 3)).set 3 (.int .i64 x)).set 4 (.int .i64 0)).set 5 (.string (strOfNums b))
      first
        | go_end0
        | refine bodyPost_ret (results_none rfl _ _ _) rfl ?_
      exact ⟨rfl, hP2, hK2⟩
end Go.Proofs.Ythkkfkiiopfkjaa.L4
