import Derived.Test.YtiohajjdlcmhnaaQuote
namespace Go.Proofs.Ytiohajjdlcmhnaa.L4
open Go.RowKit Go.Proofs.YtiohajjdlcmhnaaW.PrintWords

theorem bytesOf_strOfNums (xs : List Int) (h : ∀ x ∈ xs, 0 ≤ x ∧ x ≤ 255) : bytesOf (strOfNums xs) = xs := by
  rw [bytesOf, strOfNums_data, List.map_map]
  refine (List.map_congr_left (g := id) fun x hx => ?_).trans (List.map_id xs)
  have := h x hx
  simp only [Function.comp, id]
  simp
  omega
theorem bytesOf_append (a b : ByteArray) : bytesOf (a ++ b) = bytesOf a ++ bytesOf b := by
  simp [bytesOf, ByteArray.data_append]
theorem bytesOf_drop (s : ByteArray) (a : Nat) : bytesOf (s.extract a s.size) = (bytesOf s).drop a := by
  simp only [bytesOf, ByteArray.data_extract]
  rw [Array.toList_extract, List.extract_eq_drop_take', ← List.map_drop]
  congr 1
  rw [List.take_of_length_le (Nat.le_of_eq (data_length s))]
theorem bytesOf_range (s : ByteArray) : ∀ x ∈ bytesOf s, 0 ≤ x ∧ x ≤ 255 := by
  intro x hx
  simp only [bytesOf, List.mem_map] at hx
  obtain ⟨b, _, rfl⟩ := hx
  have := b.toNat_lt
  omega
theorem bt_of {s : ByteArray} {pre suf : List Int} {c : Int} (h : bytesOf s = pre ++ c :: suf) {i : Int} (hi : i = pre.length) : bt s i = c := by
  rw [← rd_bytesOf, h, rd, hi]
  simp [List.getD_eq_getElem?_getD]
theorem size_of {s : ByteArray} {l : List Int} (h : bytesOf s = l) : s.size = l.length := by rw [← h, bytesOf_length]
theorem ba_ext {a b : ByteArray} (h : bytesOf a = bytesOf b) : a = b := by
  have e : a.data.toList = b.data.toList := by
    have inj : ∀ (x y : List UInt8), x.map (fun b => (b.toNat : Int)) = y.map (fun b => (b.toNat : Int)) → x = y := by
      intro x
      induction x with
      | nil => intro y hy; cases y with | nil => rfl | cons => simp at hy
      | cons c x ih =>
        intro y hy
        cases y with
        | nil => simp at hy
        | cons d y =>
          simp only [List.map_cons, List.cons.injEq] at hy
          rw [ih y hy.2]
          congr 1
          exact UInt8.toNat.inj (by omega)
    exact inj _ _ h
  cases a; cases b
  simp only at e
  congr 1
  exact Array.toList_inj.1 e
theorem wrap64_id {i : Int} (h0 : -9223372036854775808 ≤ i) (h : i < 9223372036854775808) : wrap64 i = i := by
  unfold wrap64; omega
theorem wrap_succ (i : Nat) (h : i < 1000000000000000000) : wrap64 ((i : Int) + 1) = ((i + 1 : Nat) : Int) := by
  rw [wrap64_id (by omega) (by omega)]; omega
theorem wrap_add (i j : Nat) (h : i < 1000000000000000000) (h' : j < 1000000000000000000) : wrap64 ((i : Int) + (j : Int)) = ((i + j : Nat) : Int) := by
  rw [wrap64_id (by omega) (by omega)]; omega
end Go.Proofs.Ytiohajjdlcmhnaa.L4
