import Derived.Test.YthkkfkiiopfkjaaProg
import Derived.WalkKit
import Derived.KernelRfl
import Derived.Below
import Derived.Lib.Hide
import Derived.Handy
import Derived.Laws.BytesString
import Derived.Laws.Runes
import Derived.Test.YthkkfkiiopfkjaaWWords
import Derived.Test.YthkkfkiiopfkjaaWLast
namespace Go.Proofs.Ythkkfkiiopfkjaa.L4
open Go.RowKit Go.Proofs.YthkkfkiiopfkjaaW.PrintWords

/-- the mark of a byte, as numbers -/
def mkL (c : Int) : List Int :=
  if c = 92 then [92, 92] else if 7 ≤ c ∧ c < 14 then [92, [97, 98, 116, 110, 118, 102, 114].getD (c - 7).toNat 0]
  else if 32 ≤ c ∧ c ≤ 126 then [c] else [92, 48 + c / 64, 48 + c / 8 % 8, 48 + c % 8]

theorem cell3 (w : World) (t : TypeId) (a b c : Value) (i : Nat) : (w.alloc (.cells #[a, b, c] t)).cell? ⟨w.heap.size, i, none⟩ = #[a, b, c][i]? := by
  simp only [World.cell?]
  rw [show (w.alloc (.cells #[a, b, c] t)).heap[w.heap.size]? = some (.cells #[a, b, c] t) by show (w.heap.push _)[w.heap.size]? = _; simp]
  rfl
theorem conv3 (w : World) (x y z : Int) : (convert 23 9 (.slice (some ⟨w.heap.size, 0, none⟩) 3 3)).run Try.prog (w.alloc (.cells #[.int .u8 x, .int .u8 y, .int .u8 z] 5)) = .ok (.string (strOfNums [x, y, z])) (w.alloc (.cells #[.int .u8 x, .int .u8 y, .int .u8 z] 5)) :=
  run_convert_bytes_arg _ 23 5 Try.underlying23 Try.underlying5 w.heap.size 0 3 3 [x, y, z] rfl (fun i hi => by
    rw [Nat.zero_add, cell3]
    obtain rfl | rfl | rfl : i = 0 ∨ i = 1 ∨ i = 2 := by omega
    all_goals rfl) 9 Try.underlying9

/-- what Quote writes of one byte -/
def qmL (c : Int) : List Int := if c = 34 then [92, 34] else mkL c
/-- the quote of a text, as numbers -/
def quL (l : List Int) : List Int := 34 :: (l.flatMap qmL ++ [34])

theorem mkL_length (c : Int) : (mkL c).length ≤ 4 := by
  unfold mkL; split
  · simp
  · split
    · simp
    · split <;> simp
theorem qmL_length (c : Int) : (qmL c).length ≤ 4 := by
  unfold qmL; split
  · simp
  · exact mkL_length c
theorem flat_length (l : List Int) : (l.flatMap qmL).length ≤ 4 * l.length := by
  induction l with
  | nil => simp
  | cons a l ih => have := qmL_length a; simp only [List.flatMap_cons, List.length_append, List.length_cons]; omega

theorem mkL_range (c : Int) (h0 : 0 ≤ c) (h1 : c ≤ 255) : ∀ x ∈ mkL c, 0 ≤ x ∧ x ≤ 255 := by
  intro x hx
  unfold mkL at hx
  split at hx
  · simp at hx; omega
  · split at hx
    · rename_i h
      obtain rfl | rfl | rfl | rfl | rfl | rfl | rfl : c = 7 ∨ c = 8 ∨ c = 9 ∨ c = 10 ∨ c = 11 ∨ c = 12 ∨ c = 13 := by omega
      all_goals simp at hx; omega
    · split at hx
      · simp at hx; omega
      · simp at hx; omega

theorem quL_range (l : List Int) (h : ∀ x ∈ l, 0 ≤ x ∧ x ≤ 255) : ∀ x ∈ quL l, 0 ≤ x ∧ x ≤ 255 := by
  intro x hx
  simp only [quL, List.mem_cons, List.mem_append, List.mem_flatMap, List.not_mem_nil, or_false] at hx
  rcases hx with rfl | ⟨y, hy, hx⟩ | rfl
  · omega
  · unfold qmL at hx
    split at hx
    · simp at hx; omega
    · exact mkL_range y (h y hy).1 (h y hy).2 x hx
  · omega
theorem flat_snoc (l : List Int) (x : Int) : (34 :: (l ++ [x]).flatMap qmL) = (34 :: l.flatMap qmL) ++ qmL x := by simp

theorem cellR1 (w : World) (t : TypeId) (a : Value) (i : Nat) (hi : i < 1) : (w.alloc (.cells #[a] t)).cell? ⟨w.heap.size, i, none⟩ = some a := by
  obtain rfl : i = 0 := by omega
  simp only [World.cell?]
  rw [show (w.alloc (.cells #[a] t)).heap[w.heap.size]? = some (.cells #[a] t) by show (w.heap.push _)[w.heap.size]? = _; simp]
  rfl
theorem conv1 (w : World) (x : Int) : (convert 23 9 (.slice (some ⟨w.heap.size, 0, none⟩) 1 1)).run Try.prog (w.alloc (.cells #[.int .u8 x] 5)) = .ok (.string (strOfNums [x])) (w.alloc (.cells #[.int .u8 x] 5)) :=
  run_convert_bytes_arg _ 23 5 Try.underlying23 Try.underlying5 w.heap.size 0 1 1 [x] rfl (fun i hi => by
    rw [Nat.zero_add, cellR1 _ _ _ _ hi]
    obtain rfl : i = 0 := by omega
    rfl) 9 Try.underlying9

set_option maxHeartbeats 400000 in
theorem refMark_oct (c : Int) (h0 : 0 ≤ c) (h1 : c ≤ 255) (hc : c < 7 ∨ 14 ≤ c) (hd : c < 32 ∨ 126 < c) (w : World) :
    Calls Try.prog 14 #[.int .u8 c] w fun e w' => e = .returned (.string (strOfNums (mkL c))) ∧ Below w.heap.size w w' := by
  have hm : mkL c = [92, 48 + c / 64, 48 + c / 8 % 8, 48 + c % 8] := by
    unfold mkL; rw [if_neg (by omega), if_neg (by omega), if_neg (by omega)]
  have hm' := Lib.hid hm
  clear hm
  have hconv := conv3 w
  have hb : (c == 92) = false := by simp; omega
  go_enter Try.func14, Try.ntmps14
  rcases hc with hc | hc <;> rcases hd with hd | hd <;> try omega
  all_goals go_wp2_with fail
  all_goals go_ret
  all_goals refine ⟨?_, by go_grown⟩
  all_goals rw [hm'.out]; congr 2

set_option maxHeartbeats 400000 in
theorem refMark_seen (c : Int) (h0 : 32 ≤ c) (h1 : c ≤ 126) (w : World) :
    Calls Try.prog 14 #[.int .u8 c] w fun e w' => e = .returned (.string (strOfNums (mkL c))) ∧ Below w.heap.size w w' := by
  by_cases hc : c = 92
  · subst hc
    go_enter Try.func14, Try.ntmps14
    go_wp2_with fail
    go_ret
    exact ⟨rfl, by go_grown⟩
  · have hm : mkL c = [c] := by
      unfold mkL; rw [if_neg (by omega), if_neg (by omega), if_pos (by omega)]
    have hm' := Lib.hid hm
    clear hm
    have hb : (c == 92) = false := by simp; omega
    have hx : 14 ≤ c := by omega
    have hconv := conv1 w
    clear hc
    go_enter Try.func14, Try.ntmps14
    go_wp2_with fail
    go_ret
    refine ⟨?_, by go_grown⟩
    rw [hm'.out]; rfl

set_option maxHeartbeats 400000 in
theorem refMark_lett (c : Int) (h0 : 7 ≤ c) (h1 : c < 14) (w : World) :
    Calls Try.prog 14 #[.int .u8 c] w fun e w' => e = .returned (.string (strOfNums (mkL c))) ∧ Below w.heap.size w w' := by
  obtain rfl | rfl | rfl | rfl | rfl | rfl | rfl : c = 7 ∨ c = 8 ∨ c = 9 ∨ c = 10 ∨ c = 11 ∨ c = 12 ∨ c = 13 := by omega
  all_goals
    go_enter Try.func14, Try.ntmps14
    go_wp2_with fail
    go_ret
    exact ⟨rfl, by go_grown⟩

theorem refMark_any (c : Int) (h0 : 0 ≤ c) (h1 : c ≤ 255) (w : World) :
    Calls Try.prog 14 #[.int .u8 c] w fun e w' => e = .returned (.string (strOfNums (mkL c))) ∧ Below w.heap.size w w' := by
  by_cases ha : 7 ≤ c ∧ c < 14
  · exact refMark_lett c ha.1 ha.2 w
  · by_cases hb : 32 ≤ c ∧ c ≤ 126
    · exact refMark_seen c hb.1 hb.2 w
    · exact refMark_oct c h0 h1 (by omega) (by omega) w
theorem bytesOf_strOfNums (xs : List Int) (h : ∀ x ∈ xs, 0 ≤ x ∧ x ≤ 255) : bytesOf (strOfNums xs) = xs := by
  rw [bytesOf, strOfNums_data, List.map_map]
  refine (List.map_congr_left (g := id) fun x hx => ?_).trans (List.map_id xs)
  have := h x hx
  simp only [Function.comp, id]
  simp
  omega
theorem bytesOf_append (a b : ByteArray) : bytesOf (a ++ b) = bytesOf a ++ bytesOf b := by
  simp [bytesOf, ByteArray.data_append]
theorem bytesOf_drop (s : ByteArray) (a : Nat) : bytesOf (s.extract a s.size) = (bytesOf s).drop a := by
  simp only [bytesOf, ByteArray.data_extract]
  rw [Array.toList_extract, List.extract_eq_drop_take', ← List.map_drop]
  congr 1
  rw [List.take_of_length_le (Nat.le_of_eq (data_length s))]
theorem bytesOf_range (s : ByteArray) : ∀ x ∈ bytesOf s, 0 ≤ x ∧ x ≤ 255 := by
  intro x hx
  simp only [bytesOf, List.mem_map] at hx
  obtain ⟨b, _, rfl⟩ := hx
  have := b.toNat_lt
  omega
theorem bt_of {s : ByteArray} {pre suf : List Int} {c : Int} (h : bytesOf s = pre ++ c :: suf) {i : Int} (hi : i = pre.length) : bt s i = c := by
  rw [← rd_bytesOf, h, rd, hi]
  simp [List.getD_eq_getElem?_getD]
theorem size_of {s : ByteArray} {l : List Int} (h : bytesOf s = l) : s.size = l.length := by rw [← h, bytesOf_length]
theorem ba_ext {a b : ByteArray} (h : bytesOf a = bytesOf b) : a = b := by
  have e : a.data.toList = b.data.toList := by
    have inj : ∀ (x y : List UInt8), x.map (fun b => (b.toNat : Int)) = y.map (fun b => (b.toNat : Int)) → x = y := by
      intro x
      induction x with
      | nil => intro y hy; cases y with | nil => rfl | cons => simp at hy
      | cons c x ih =>
        intro y hy
        cases y with
        | nil => simp at hy
        | cons d y =>
          simp only [List.map_cons, List.cons.injEq] at hy
          rw [ih y hy.2]
          congr 1
          exact UInt8.toNat.inj (by omega)
    exact inj _ _ h
  cases a; cases b
  simp only at e
  congr 1
  exact Array.toList_inj.1 e
theorem wrap64_id {i : Int} (h0 : -9223372036854775808 ≤ i) (h : i < 9223372036854775808) : wrap64 i = i := by
  unfold wrap64; omega
theorem wrap_succ (i : Nat) (h : i < 1000000000000000000) : wrap64 ((i : Int) + 1) = ((i + 1 : Nat) : Int) := by
  rw [wrap64_id (by omega) (by omega)]; omega
theorem wrap_add (i j : Nat) (h : i < 1000000000000000000) (h' : j < 1000000000000000000) : wrap64 ((i : Int) + (j : Int)) = ((i + j : Nat) : Int) := by
  rw [wrap64_id (by omega) (by omega)]; omega
end Go.Proofs.Ythkkfkiiopfkjaa.L4
