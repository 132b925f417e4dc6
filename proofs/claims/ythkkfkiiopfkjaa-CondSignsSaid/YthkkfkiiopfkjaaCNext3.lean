import Derived.Test.YthkkfkiiopfkjaaCNext
import Derived.Test.YthkkfkiiopfkjaaPCondSignsx2
import Derived.Test.YthkkfkiiopfkjaaShelf
import Derived.Lib.ConvBytes
set_option linter.unusedVariables false
set_option linter.unusedSimpArgs false
namespace Go.Proofs.Ythkkfkiiopfkjaa.L4
open Go.RowKit Go.Proofs.YthkkfkiiopfkjaaW.PrintWords

set_option maxRecDepth 100000 in
set_option maxHeartbeats 4000000 in
theorem next_num (G : Nat) (s : ByteArray) (i0 i : Nat) (c m : Int) (t1 K : Nat) (k p n : Int) (q : ByteArray) (d : Int) (w : World) (hs : s.size ≤ 100000) (h : PS G s i0 k p n q d w)
    (h0 : i0 ≤ i) (hsp : ∀ x, i0 ≤ x → x < i → bt s (x : Nat) = 32) (hi : i < s.size) (hc : bt s (i : Nat) = c) (hd : 48 ≤ c ∧ c ≤ 57) (hu : PCondSigns.digit_Num.f K (bytesOf s) (i : Int) 2147483648 = some (m, (t1 : Int), 0)) :
    Calls Try.prog 11 #[.pointer (some ⟨G, 0, none⟩)] w fun e w' => e = .returned (.tuple #[]) ∧ PS G s t1 2 i m ⟨#[]⟩ d w' ∧ Kp G w w' := by
  go_enter Try.func11, Try.ntmps11
  go_wp2_with fail
  go_loopw [] (fun wr => ∃ x : Nat, i0 ≤ x ∧ x ≤ i ∧ Aside0 (PS G s x k p n q d wr) ∧ Aside0 (Kp G w wr)) (fun wr => i - (intOf ((wr.cell? ⟨G, 1, none⟩).getD undef)).toNat)
  case atStart => exact ⟨i0, Nat.le_refl _, h0, ⟨h⟩, ⟨Kp.refl _ _⟩⟩
  case round =>
    obtain ⟨x, hx0, hx1, hP, hK⟩ := hrel
    have c0 := hP.out.c0
    have c1 := hP.out.c1
    have f1 := hP.out.fz 1
    by_cases hxi : x < i
    · have hb : ∀ h : x < s.size, ((s[x]'h).toNat : Int) = 32 := fun h => (bt_at s x h).trans (hsp x hx0 hxi)
      have q1 : (x < s.size) = True := eq_true (by omega)
      have q2 : ((x : Int) < (s.size : Int)) = True := eq_true (by omega)
      go_wp2_with fail
      go_region
      go_wp2_with fail
      have hP1 := (hP.out.set1 ((x : Int) + 1)).drew
      have hK1 := (hK.out.set 1 (.int .i64 ((x : Int) + 1))).drew
      go_roundw
      case rel => exact ⟨x + 1, by omega, by omega, ⟨hP1⟩, ⟨hK1⟩⟩
      case measure => rw [hP1.c1, c1]; simp [intOf]; omega
    · obtain rfl : x = i := by omega
      have c2 := hP.out.c2
      have c3 := hP.out.c3
      have c4 := hP.out.c4
      have c5 := hP.out.c5
      have f2 := hP.out.fz 2
      have f3 := hP.out.fz 3
      have f4 := hP.out.fz 4
      have f5 := hP.out.fz 5
      have hb := bt_at s x
      simp only [Int.toNat_natCast] at hb
      rw [hc] at hb
      have q1 : (x < s.size) = True := eq_true (by omega)
      have q2 : ((x : Int) < (s.size : Int)) = True := eq_true (by omega)
      have hne : ((x : Int) == (s.size : Int)) = false := by simp; omega
      have h32 : (c == 32) = false := by simp; omega
      have h97 : (97 ≤ c) = False := eq_false (by omega)
      have hd1 := hd.1
      have hd2 := hd.2
      go_wp2_with fail
      go_region
      have HP := Aside0.mk hP.out.drew
      have HK := Aside0.mk hK.out.drew
      clear c0 c1 c2 c3 c4 c5 f1 f2 f3 f4 f5 hP hK
      generalize wr.drew = w1 at *
      have c0 := HP.out.c0
      have c1 := HP.out.c1
      have kb := print_bytes (P := Try.prog) 9 23 5 Try.underlying9 Try.underlying23 Try.underlying5 s w1
      have hbw : Below w1.heap.size w1 (Lib.bytesWorld w1 5 s) := bytes_below (Below.refl _ _) (Nat.le_refl _) 5 s
      have hrd := bytes_reads w1 5 s (by omega)
      have hcap : (bytesOf s).length ≤ grownCap w1 s.size 0 5 := by rw [bytesOf_length]; exact grownCap_ge _ _ _ _
      have HC := Aside0.mk (Kd.C_of_reads (d := (0 : Int)) (h1 := fun _ => rfl) hrd)
      clear hrd
      have key : Calls Try.prog 17 #[.slice (some ⟨w1.heap.size, 0, none⟩) s.size (grownCap w1 s.size 0 5), .int .i64 x, .int .i64 2147483648] (Lib.bytesWorld w1 5 s) fun e w' => e = .returned (.tuple #[.int .i64 m, .int .i64 t1, .int .i64 0]) ∧ Drawn0 (Lib.bytesWorld w1 5 s) w' := by
        have h9 := PCondSigns.digit_Num.calls K (some ⟨w1.heap.size, 0, none⟩) (grownCap w1 s.size 0 5) (bytesOf s) (x : Int) 2147483648 m (t1 : Int) 0 (Lib.bytesWorld w1 5 s) (by rw [bytesOf_length]; exact HC.out) hcap hu
        rw [bytesOf_length] at h9
        exact h9
      clear HC hcap hu
      generalize Lib.bytesWorld w1 5 s = W2 at *
      go_wp2_with (go_at_call 17; refine key.mono ?_; rintro e w2 ⟨rfl, hD⟩; have hB := hbw.trans (hD.below.mono hbw.size); have HP2 := Aside0.mk (HP.out.below hB); have c1 := HP2.out.c1; have c2 := HP2.out.c2; have c3 := HP2.out.c3; have c4 := HP2.out.c4; have c5 := HP2.out.c5; have f1 := HP2.out.fz 1; have f2 := HP2.out.fz 2; have f3 := HP2.out.fz 3; have f4 := HP2.out.fz 4; have f5 := HP2.out.fz 5)
      have hP2 := ((((HP2.out.set1 (t1 : Int)).set2 2).set3 (x : Int)).set4 m).set5 ⟨#[]⟩
      have hK2 := (((((HK.out.trans (Kp.of_below hB)).set 1 (.int .i64 t1)).set 2 (.int .i64 2)).set 3 (.int .i64 x)).set 4 (.int .i64 m)).set 5 (.string ⟨#[]⟩)
      first
        | go_end0
        | refine bodyPost_ret (results_none rfl _ _ _) rfl ?_
      exact ⟨rfl, hP2, hK2⟩
end Go.Proofs.Ythkkfkiiopfkjaa.L4
