import Derived.Test.YtiohajjdlcmhnaaMark
import Derived.Test.YtiohajjdlcmhnaaBuild
import Derived.Test.YtiohajjdlcmhnaaShelf
namespace Go.Proofs.Ytiohajjdlcmhnaa.L4
open Go.RowKit Go.Proofs.YtiohajjdlcmhnaaW.PrintWords

/-- what Quote writes of one byte -/
def qmL (c : Int) : List Int := if c = 34 then [92, 34] else mkL c
/-- the quote of a text, as numbers -/
def quL (l : List Int) : List Int := 34 :: (l.flatMap qmL ++ [34])

theorem mkL_length (c : Int) : (mkL c).length ≤ 4 := by
  unfold mkL; split
  · simp
  · split
    · simp
    · split <;> simp
theorem qmL_length (c : Int) : (qmL c).length ≤ 4 := by
  unfold qmL; split
  · simp
  · exact mkL_length c
theorem flat_length (l : List Int) : (l.flatMap qmL).length ≤ 4 * l.length := by
  induction l with
  | nil => simp
  | cons a l ih => have := qmL_length a; simp only [List.flatMap_cons, List.length_append, List.length_cons]; omega

theorem strCells_nums (xs : List Int) (h : ∀ x ∈ xs, 0 ≤ x ∧ x ≤ 255) : Lib.strCells (strOfNums xs) = nums .u8 xs := by
  rw [Lib.strCells, strOfNums_data, nums, List.map_map]
  apply List.map_congr_left
  intro x hx
  have := h x hx
  simp only [Function.comp]
  congr 1
  simp
  omega
theorem byteCells_nums (xs : List Int) (h : ∀ x ∈ xs, 0 ≤ x ∧ x ≤ 255) : nums .u8 xs = Lib.byteCells (strOfNums xs).data.toList := by
  rw [← strCells_nums xs h]; rfl
theorem mkL_range (c : Int) (h0 : 0 ≤ c) (h1 : c ≤ 255) : ∀ x ∈ mkL c, 0 ≤ x ∧ x ≤ 255 := by
  intro x hx
  unfold mkL at hx
  split at hx
  · simp at hx; omega
  · split at hx
    · rename_i h
      obtain rfl | rfl | rfl | rfl | rfl | rfl | rfl : c = 7 ∨ c = 8 ∨ c = 9 ∨ c = 10 ∨ c = 11 ∨ c = 12 ∨ c = 13 := by omega
      all_goals simp at hx; omega
    · split at hx
      · simp at hx; omega
      · simp at hx; omega

theorem builderAt_below {T e : TypeId} {B b : Nat} {p : Value} {bs : List Value} {w w1 : World} (h : Lib.BuilderAt T e B b p bs w) (hb : Below w.heap.size w w1) : Lib.BuilderAt T e B b p bs w1 := by
  have hlt := h.lt
  obtain ⟨hB, v, hbk, hown, hne⟩ := h
  exact ⟨hB, v, (hb.block b hlt).trans hbk, pw_own_below hown hb, hne⟩
theorem isBuilder_below {T e : TypeId} {B b : Nat} {bs : List Value} {w w1 : World} (h : Lib.IsBuilder T e B b bs w) (hb : Below w.heap.size w w1) : Lib.IsBuilder T e B b bs w1 :=
  h.imp (fun h => builderAt_below h hb) (fun h => builderAt_below h hb)
theorem quL_range (l : List Int) (h : ∀ x ∈ l, 0 ≤ x ∧ x ≤ 255) : ∀ x ∈ quL l, 0 ≤ x ∧ x ≤ 255 := by
  intro x hx
  simp only [quL, List.mem_cons, List.mem_append, List.mem_flatMap, List.not_mem_nil, or_false] at hx
  rcases hx with rfl | ⟨y, hy, hx⟩ | rfl
  · omega
  · unfold qmL at hx
    split at hx
    · simp at hx; omega
    · exact mkL_range y (h y hy).1 (h y hy).2 x hx
  · omega
theorem quote_cells (l : List Int) (h : ∀ x ∈ l, 0 ≤ x ∧ x ≤ 255) : nums .u8 (34 :: (l.take l.length).flatMap qmL) ++ [.int .u8 34] = Lib.byteCells (strOfNums (quL l)).data.toList := by
  rw [← byteCells_nums _ (quL_range l h), List.take_length, quL, ← List.cons_append, nums_append]; rfl
theorem flat_snoc (l : List Int) (x : Int) : (34 :: (l ++ [x]).flatMap qmL) = (34 :: l.flatMap qmL) ++ qmL x := by simp

set_option maxHeartbeats 1000000 in
set_option maxRecDepth 100000 in
theorem quote_any (A : Option Addr) (c : Nat) (l : List Int) (w : World) (hr : Kd.C (Kd.int .u8) w A l.length l) (hb : ∀ x ∈ l, 0 ≤ x ∧ x ≤ 255) (hn : l.length ≤ 1099511627776) :
    Calls Try.prog 5 #[.slice A l.length c] w fun e w' => e = .returned (.string (strOfNums (quL l))) ∧ Below w.heap.size w w' := by
  have HR := Aside0.mk hr
  have HB := Aside0.mk hb
  clear hr hb
  go_enter Try.func5, Try.ntmps5
  go_wp2_with (go_at_call 11; refine (writeByte_any w.heap.size w.heap.size [] 34 _ (by exact Lib.fresh_isBuilder _ _ _) (by simp) (by simp)).mono ?_; rintro e w1 ⟨rfl, hB1, hb1⟩)
  go_loopw [9] (fun i wr => ∃ k : Nat, k ≤ l.length ∧ i = .int .i64 k ∧ Aside0 (Lib.IsBuilder 34 5 w.heap.size w.heap.size (nums .u8 (34 :: (l.take k).flatMap qmL)) wr) ∧ Aside0 (Below w.heap.size w wr)) (fun i _ => l.length - (intOf i).toNat)
  case atStart => exact ⟨0, Nat.zero_le _, rfl, ⟨by simpa [nums] using hB1⟩, ⟨((Below.refl _ _).alloc (Nat.le_refl _) _).trans hb1⟩⟩
  case round =>
    obtain ⟨k, hk, rfl, hB, hb⟩ := hrel
    by_cases hlt : k < l.length
    · have hts : (l.take (k + 1)) = l.take k ++ [rd l k] := by
        rw [List.take_succ_eq_append_getElem hlt, rd]; congr 2; simp [List.getElem?_eq_getElem hlt]
      have hrg := HB.out (rd l k) (by rw [rd]; simp [List.getElem?_eq_getElem hlt])
      have hfl := flat_length (l.take k)
      have hlk : (l.take k).length ≤ k := List.length_take_le _ _
      obtain ⟨ad, e1, hx0⟩ := Kd.at_int HR.out (k : Int) (by omega) (by omega)
      cases e1
      rw [Int.toNat_natCast] at hx0
      replace hx0 := (hb.out.cell (World.block_lt_of_cell? w _ hx0)).trans hx0
      have HT := Aside0.mk hts
      clear hts
      have hsz := hb.out.size
      by_cases hq : rd l k = 34
      · have hq1 : (rd l k == 34) = true := beq_iff_eq.2 hq
        have hq' : qmL (rd l k) = [92, 34] ∧ mkL (rd l k) = [34] := ⟨by rw [qmL, if_pos hq], by rw [hq]; rfl⟩
        have HQ := Aside0.mk hq'
        have hms : (strOfNums (mkL (rd l k))).size = 1 := by rw [hq'.2]; rfl
        have HS := Aside0.mk hms
        clear hq hq' hms
        go_wp2_with (first
          | (go_at_call_of 11 (Value.int .u8 92); refine (writeByte_any w.heap.size w.heap.size _ 92 _ (by exact hB.out) (by rw [nums_length, List.length_cons]; omega) (by exact hsz)).mono ?_; rintro e w2 ⟨rfl, hB2, hb2⟩; have hsz2 := hb2.size)
          | (go_at_call 13; refine (mark_any (rd l k) hrg.1 hrg.2 _).mono ?_; rintro e w3 ⟨rfl, hb3⟩; have hsz3 := hb3.size)
          | (go_at_call 12; refine (writeString_any w.heap.size w.heap.size _ _ _ (by exact isBuilder_below hB2 hb3) (by have := HS.out; simp only [List.length_append, nums_length, List.length_cons, List.length_nil]; omega) (by omega)).mono ?_; rintro e w4 ⟨rfl, hB4, hb4⟩))
        go_roundw
        case rel =>
          refine ⟨k + 1, by omega, by go_num, ⟨?_⟩, ⟨((hb.out.trans hb2).trans (hb3.mono (by omega))).trans hb4⟩⟩
          rw [HT.out, flat_snoc, HQ.out.1, nums_append]
          rw [HQ.out.2, strCells_nums _ (by simp)] at hB4
          simpa [nums] using hB4
        case measure => simp [intOf]; omega
      · have hq1 : (rd l k == 34) = false := beq_eq_false_iff_ne.2 hq
        have hq' : qmL (rd l k) = mkL (rd l k) := by rw [qmL, if_neg hq]
        have hms : (strOfNums (mkL (rd l k))).size ≤ 4 := by rw [strOfNums_size]; exact mkL_length _
        have HQ := Aside0.mk hq'
        clear hq hq'
        go_wp2_with (first
          | (go_at_call 13; refine (mark_any (rd l k) hrg.1 hrg.2 _).mono ?_; rintro e w3 ⟨rfl, hb3⟩; have hsz3 := hb3.size)
          | (go_at_call 12; refine (writeString_any w.heap.size w.heap.size _ _ _ (by exact isBuilder_below hB.out hb3) (by simp only [nums_length, List.length_cons]; omega) (by omega)).mono ?_; rintro e w4 ⟨rfl, hB4, hb4⟩))
        go_roundw
        case rel =>
          refine ⟨k + 1, by omega, by go_num, ⟨?_⟩, ⟨(hb.out.trans (hb3.mono (by omega))).trans hb4⟩⟩
          rw [HT.out, flat_snoc, HQ.out, nums_append]
          rw [strCells_nums _ (mkL_range _ hrg.1 hrg.2)] at hB4
          exact hB4
        case measure => simp [intOf]; omega
    · obtain rfl : k = l.length := by omega
      have hfl := flat_length (l.take l.length)
      have htl : l.take l.length = l := List.take_length
      have HT := Aside0.mk htl
      have HC := Aside0.mk (quote_cells l HB.out)
      have hsz := hb.out.size
      rw [htl] at hfl
      clear htl hlt
      go_wp2_with (first
        | (go_at_call 11; refine (writeByte_any w.heap.size w.heap.size _ 34 _ (by exact hB.out) (by rw [HT.out, nums_length, List.length_cons]; omega) (by exact hsz)).mono ?_; rintro e w2 ⟨rfl, hB2, hb2⟩; have hsz2 := hb2.size)
        | (go_at_call 14; refine (Try.Builder_String_any w.heap.size w.heap.size (strOfNums (quL l)).data.toList _ (by rw [← HC.out]; exact hB2) (by omega)).mono ?_; rintro e w3 ⟨rfl, hb3⟩))
      go_ret
      exact ⟨rfl, (hb.out.trans hb2).trans hb3⟩
end Go.Proofs.Ytiohajjdlcmhnaa.L4
