import Derived.Test.YtiohajjdlcmhnaaProg
import Derived.WalkKit
import Derived.KernelRfl
import Derived.Below
import Derived.Lib.Hide
import Derived.Handy
import Derived.Laws.BytesString
import Derived.Laws.Runes
import Derived.Test.YtiohajjdlcmhnaaWWords
namespace Go.Proofs.Ytiohajjdlcmhnaa.L4
open Go.RowKit Go.Proofs.YtiohajjdlcmhnaaW.PrintWords

/-- the mark of a byte, as numbers -/
def mkL (c : Int) : List Int :=
  if c = 92 then [92, 92] else if 7 ≤ c ∧ c < 14 then [92, [97, 98, 116, 110, 118, 102, 114].getD (c - 7).toNat 0]
  else if 32 ≤ c ∧ c ≤ 126 then [c] else [92, 48 + c / 64, 48 + c / 8 % 8, 48 + c % 8]

theorem cell3 (w : World) (t : TypeId) (a b c : Value) (i : Nat) : (w.alloc (.cells #[a, b, c] t)).cell? ⟨w.heap.size, i, none⟩ = #[a, b, c][i]? := by
  simp only [World.cell?]
  rw [show (w.alloc (.cells #[a, b, c] t)).heap[w.heap.size]? = some (.cells #[a, b, c] t) by show (w.heap.push _)[w.heap.size]? = _; simp]
  rfl
theorem conv3 (w : World) (x y z : Int) : (convert 22 9 (.slice (some ⟨w.heap.size, 0, none⟩) 3 3)).run Try.prog (w.alloc (.cells #[.int .u8 x, .int .u8 y, .int .u8 z] 5)) = .ok (.string (strOfNums [x, y, z])) (w.alloc (.cells #[.int .u8 x, .int .u8 y, .int .u8 z] 5)) :=
  run_convert_bytes_arg _ 22 5 Try.underlying22 Try.underlying5 w.heap.size 0 3 3 [x, y, z] rfl (fun i hi => by
    rw [Nat.zero_add, cell3]
    obtain rfl | rfl | rfl : i = 0 ∨ i = 1 ∨ i = 2 := by omega
    all_goals rfl) 9 Try.underlying9

theorem encode_small (c : Int) (h0 : 32 ≤ c) (h1 : c ≤ 126) : Utf8.encode c = strOfNums [c] := by
  obtain ⟨n, rfl⟩ := Int.eq_ofNat_of_zero_le (show 0 ≤ c by omega)
  have hn : n < 127 := by omega
  have key : ∀ n : Fin 127, Utf8.encode (n.val : Int) = strOfNums [(n.val : Int)] := by decide +kernel
  exact key ⟨n, hn⟩

set_option maxHeartbeats 400000 in
theorem mark_oct (c : Int) (h0 : 0 ≤ c) (h1 : c ≤ 255) (hc : c < 7 ∨ 14 ≤ c) (hd : c < 32 ∨ 126 < c) (w : World) :
    Calls Try.prog 13 #[.int .u8 c] w fun e w' => e = .returned (.string (strOfNums (mkL c))) ∧ Below w.heap.size w w' := by
  have hm : mkL c = [92, 48 + c / 64, 48 + c / 8 % 8, 48 + c % 8] := by
    unfold mkL; rw [if_neg (by omega), if_neg (by omega), if_neg (by omega)]
  have hm' := Lib.hid hm
  clear hm
  have hconv := conv3 w
  have hb : (c == 92) = false := by simp; omega
  go_enter Try.func13, Try.ntmps13
  rcases hc with hc | hc <;> rcases hd with hd | hd <;> try omega
  all_goals go_wp2_with fail
  all_goals go_ret
  all_goals refine ⟨?_, by go_grown⟩
  all_goals rw [hm'.out]; congr 2

set_option maxHeartbeats 400000 in
theorem mark_seen (c : Int) (h0 : 32 ≤ c) (h1 : c ≤ 126) (w : World) :
    Calls Try.prog 13 #[.int .u8 c] w fun e w' => e = .returned (.string (strOfNums (mkL c))) ∧ Below w.heap.size w w' := by
  by_cases hc : c = 92
  · subst hc
    go_enter Try.func13, Try.ntmps13
    go_wp2_with fail
    go_ret
    exact ⟨rfl, by go_grown⟩
  · have hm : mkL c = [c] := by
      unfold mkL; rw [if_neg (by omega), if_neg (by omega), if_pos (by omega)]
    have he := encode_small c h0 h1
    have hm' := Lib.hid hm
    have he' := Lib.hid he
    clear hm he
    have hb : (c == 92) = false := by simp; omega
    have hx : 14 ≤ c := by omega
    clear hc
    go_enter Try.func13, Try.ntmps13
    go_wp2_with fail
    go_ret
    refine ⟨?_, by go_grown⟩
    rw [hm'.out, he'.out]; rfl

set_option maxHeartbeats 400000 in
theorem mark_lett (c : Int) (h0 : 7 ≤ c) (h1 : c < 14) (w : World) :
    Calls Try.prog 13 #[.int .u8 c] w fun e w' => e = .returned (.string (strOfNums (mkL c))) ∧ Below w.heap.size w w' := by
  obtain rfl | rfl | rfl | rfl | rfl | rfl | rfl : c = 7 ∨ c = 8 ∨ c = 9 ∨ c = 10 ∨ c = 11 ∨ c = 12 ∨ c = 13 := by omega
  all_goals
    go_enter Try.func13, Try.ntmps13
    go_wp2_with fail
    go_ret
    exact ⟨rfl, by go_grown⟩

theorem mark_any (c : Int) (h0 : 0 ≤ c) (h1 : c ≤ 255) (w : World) :
    Calls Try.prog 13 #[.int .u8 c] w fun e w' => e = .returned (.string (strOfNums (mkL c))) ∧ Below w.heap.size w w' := by
  by_cases ha : 7 ≤ c ∧ c < 14
  · exact mark_lett c ha.1 ha.2 w
  · by_cases hb : 32 ≤ c ∧ c ≤ 126
    · exact mark_seen c hb.1 hb.2 w
    · exact mark_oct c h0 h1 (by omega) (by omega) w
end Go.Proofs.Ytiohajjdlcmhnaa.L4
