import Derived.Test.YtiohajjdlcmhnaaMark
namespace Go.Proofs.Ytiohajjdlcmhnaa.L4
open Go.RowKit Go.Proofs.YtiohajjdlcmhnaaW.PrintWords

theorem cellR1 (w : World) (t : TypeId) (a : Value) (i : Nat) (hi : i < 1) : (w.alloc (.cells #[a] t)).cell? ⟨w.heap.size, i, none⟩ = some a := by
  obtain rfl : i = 0 := by omega
  simp only [World.cell?]
  rw [show (w.alloc (.cells #[a] t)).heap[w.heap.size]? = some (.cells #[a] t) by show (w.heap.push _)[w.heap.size]? = _; simp]
  rfl
theorem conv1 (w : World) (x : Int) : (convert 22 9 (.slice (some ⟨w.heap.size, 0, none⟩) 1 1)).run Try.prog (w.alloc (.cells #[.int .u8 x] 5)) = .ok (.string (strOfNums [x])) (w.alloc (.cells #[.int .u8 x] 5)) :=
  run_convert_bytes_arg _ 22 5 Try.underlying22 Try.underlying5 w.heap.size 0 1 1 [x] rfl (fun i hi => by
    rw [Nat.zero_add, cellR1 _ _ _ _ hi]
    obtain rfl : i = 0 := by omega
    rfl) 9 Try.underlying9

set_option maxHeartbeats 400000 in
theorem refMark_oct (c : Int) (h0 : 0 ≤ c) (h1 : c ≤ 255) (hc : c < 7 ∨ 14 ≤ c) (hd : c < 32 ∨ 126 < c) (w : World) :
    Calls Try.prog 16 #[.int .u8 c] w fun e w' => e = .returned (.string (strOfNums (mkL c))) ∧ Below w.heap.size w w' := by
  have hm : mkL c = [92, 48 + c / 64, 48 + c / 8 % 8, 48 + c % 8] := by
    unfold mkL; rw [if_neg (by omega), if_neg (by omega), if_neg (by omega)]
  have hm' := Lib.hid hm
  clear hm
  have hconv := conv3 w
  have hb : (c == 92) = false := by simp; omega
  go_enter Try.func16, Try.ntmps16
  rcases hc with hc | hc <;> rcases hd with hd | hd <;> try omega
  all_goals go_wp2_with fail
  all_goals go_ret
  all_goals refine ⟨?_, by go_grown⟩
  all_goals rw [hm'.out]; congr 2

set_option maxHeartbeats 400000 in
theorem refMark_seen (c : Int) (h0 : 32 ≤ c) (h1 : c ≤ 126) (w : World) :
    Calls Try.prog 16 #[.int .u8 c] w fun e w' => e = .returned (.string (strOfNums (mkL c))) ∧ Below w.heap.size w w' := by
  by_cases hc : c = 92
  · subst hc
    go_enter Try.func16, Try.ntmps16
    go_wp2_with fail
    go_ret
    exact ⟨rfl, by go_grown⟩
  · have hm : mkL c = [c] := by
      unfold mkL; rw [if_neg (by omega), if_neg (by omega), if_pos (by omega)]
    have hm' := Lib.hid hm
    clear hm
    have hb : (c == 92) = false := by simp; omega
    have hx : 14 ≤ c := by omega
    have hconv := conv1 w
    clear hc
    go_enter Try.func16, Try.ntmps16
    go_wp2_with fail
    go_ret
    refine ⟨?_, by go_grown⟩
    rw [hm'.out]; rfl

set_option maxHeartbeats 400000 in
theorem refMark_lett (c : Int) (h0 : 7 ≤ c) (h1 : c < 14) (w : World) :
    Calls Try.prog 16 #[.int .u8 c] w fun e w' => e = .returned (.string (strOfNums (mkL c))) ∧ Below w.heap.size w w' := by
  obtain rfl | rfl | rfl | rfl | rfl | rfl | rfl : c = 7 ∨ c = 8 ∨ c = 9 ∨ c = 10 ∨ c = 11 ∨ c = 12 ∨ c = 13 := by omega
  all_goals
    go_enter Try.func16, Try.ntmps16
    go_wp2_with fail
    go_ret
    exact ⟨rfl, by go_grown⟩

theorem refMark_any (c : Int) (h0 : 0 ≤ c) (h1 : c ≤ 255) (w : World) :
    Calls Try.prog 16 #[.int .u8 c] w fun e w' => e = .returned (.string (strOfNums (mkL c))) ∧ Below w.heap.size w w' := by
  by_cases ha : 7 ≤ c ∧ c < 14
  · exact refMark_lett c ha.1 ha.2 w
  · by_cases hb : 32 ≤ c ∧ c ≤ 126
    · exact refMark_seen c hb.1 hb.2 w
    · exact refMark_oct c h0 h1 (by omega) (by omega) w
end Go.Proofs.Ytiohajjdlcmhnaa.L4
