import Derived.Test.YthkkfkiiopfkjaaCLex
import Derived.Test.YthkkfkiiopfkjaaCDig
set_option linter.unusedVariables false
set_option linter.unusedSimpArgs false
namespace Go.Proofs.Ythkkfkiiopfkjaa.L4
open Go.RowKit Go.Proofs.YthkkfkiiopfkjaaW.PrintWords

theorem sg_cases (P : Nat → Prop) (h0 : P 0) (h1 : P 1) (h2 : P 2) (h3 : P 3) (h4 : P 4) (h5 : P 5) : ∀ m, m < 6 → P m := by
  intro m hm
  obtain rfl | rfl | rfl | rfl | rfl | rfl : m = 0 ∨ m = 1 ∨ m = 2 ∨ m = 3 ∨ m = 4 ∨ m = 5 := by omega
  all_goals assumption

/-- a text 'line', a sign, a number -/
theorem parse_line (s : ByteArray) (m n : Nat) (hm : m < 6) (hn : n < 65536) (la lb : Nat) (hla : la ≤ 1) (hlb : lb ≤ 1) (hs : s.size ≤ 4096)
    (h : bytesOf s = [108, 105, 110, 101] ++ (List.replicate la 32 ++ (bytesOf (sgs.getD m ⟨#[]⟩) ++ (List.replicate lb 32 ++ digs n)))) :
    ParseTo s (fun _ w v => NumC w v (fnV 32) n (sgs.getD m ⟨#[]⟩)) := by
  obtain ⟨c, D, hD⟩ : ∃ c D, digs n = c :: D := by
    have := digs_pos n
    cases hd : digs n with
    | nil => rw [hd] at this; simp at this
    | cons c D => exact ⟨c, D, rfl⟩
  have hc : 48 ≤ c ∧ c ≤ 57 := digs_range n c (by rw [hD]; simp)
  have hz := size_of h
  simp only [List.length_append, List.length_replicate] at hz
  have hsz : (bytesOf (sgs.getD m ⟨#[]⟩)).length = (sgs.getD m ⟨#[]⟩).size := bytesOf_length _
  have n0 : ∀ G, NextTo G s 0 0 4 1 0 0 wLine := fun G => by
    refine lexWord (A := []) (sp := 0) (W := [108, 105, 110, 101]) (B := List.replicate la 32 ++ (bytesOf (sgs.getD m ⟨#[]⟩) ++ (List.replicate lb 32 ++ digs n))) (by omega) (by simpa using h) (by
      intro y hy
      have hy4 : y < 4 := hy
      obtain rfl | rfl | rfl | rfl : y = 0 ∨ y = 1 ∨ y = 2 ∨ y = 3 := by omega
      all_goals decide) (by decide) (.inr ?_) (by decide) (List.Mem.head _) rfl rfl rfl
    obtain rfl | rfl : la = 0 ∨ la = 1 := by omega
    · refine sg_cases (fun m => 0 < (List.replicate 0 (32 : Int) ++ (bytesOf (sgs.getD m ⟨#[]⟩) ++ (List.replicate lb 32 ++ digs n))).length ∧ ¬ (97 ≤ (List.replicate 0 (32 : Int) ++ (bytesOf (sgs.getD m ⟨#[]⟩) ++ (List.replicate lb 32 ++ digs n))).getD 0 0 ∧ (List.replicate 0 (32 : Int) ++ (bytesOf (sgs.getD m ⟨#[]⟩) ++ (List.replicate lb 32 ++ digs n))).getD 0 0 ≤ 122)) ?_ ?_ ?_ ?_ ?_ ?_ m hm
      all_goals simp [sgs, bytesOf]
    · simp
  have n1 : ∀ G, NextTo G s 4 0 ((4 + la + (sgs.getD m ⟨#[]⟩).size : Nat) : Int) 4 ((4 + la : Nat) : Int) 0 (sgs.getD m ⟨#[]⟩) := fun G =>
    lexSign (A := [108, 105, 110, 101]) (sp := la) (B := List.replicate lb 32 ++ digs n) (by omega) m hm h (by
      rw [hD]
      obtain rfl | rfl : lb = 0 ∨ lb = 1 := by omega
      · simp; omega
      · simp) rfl rfl rfl
  have hA : bytesOf s = ([108, 105, 110, 101] ++ (List.replicate la 32 ++ bytesOf (sgs.getD m ⟨#[]⟩))) ++ (List.replicate lb 32 ++ (c :: D)) := by rw [h, hD]; simp
  have hA2 : bytesOf s = (([108, 105, 110, 101] ++ (List.replicate la 32 ++ bytesOf (sgs.getD m ⟨#[]⟩))) ++ List.replicate lb 32) ++ digs n := by rw [h]; simp
  have hla2 : (([108, 105, 110, 101] : List Int) ++ (List.replicate la 32 ++ bytesOf (sgs.getD m ⟨#[]⟩))).length = 4 + la + (sgs.getD m ⟨#[]⟩).size := by
    rw [List.length_append, List.length_append, List.length_replicate, hsz]; simp; omega
  have hnum := num_ev (bytesOf s) _ (digs n) hA2 (digs_range n) (digs_pos n) (by rw [bytesOf_length]; omega) (by rw [digs_val]; omega)
  rw [List.length_append, List.length_replicate, hla2, digs_val, bytesOf_length] at hnum
  have n2 : ∀ G, NextTo G s ((4 + la + (sgs.getD m ⟨#[]⟩).size : Nat) : Int) 0 (s.size : Int) 2 ((4 + la + (sgs.getD m ⟨#[]⟩).size + lb : Nat) : Int) n ⟨#[]⟩ := fun G =>
    lexNum (A := [108, 105, 110, 101] ++ (List.replicate la 32 ++ bytesOf (sgs.getD m ⟨#[]⟩))) (sp := lb) (by omega) hA hc (by rw [hla2]; exact hnum) (by rw [hla2]) rfl (by rw [hla2])
  have n3 : ∀ G, NextTo G s (s.size : Int) 0 (s.size : Int) 0 (s.size : Int) 0 ⟨#[]⟩ := fun G =>
    lexEnd (A := bytesOf s) (sp := 0) (by omega) (by simp) (by rw [bytesOf_length]) (by rw [bytesOf_length]; simp)
  exact parse_num s hs n0 n1 n2 n3

theorem quL_len (b : List Int) : (quL b).length ≤ 4 * b.length + 2 := by
  have := flat_length b
  simp only [quL, List.length_cons, List.length_append, List.length_nil]; omega
end Go.Proofs.Ythkkfkiiopfkjaa.L4
