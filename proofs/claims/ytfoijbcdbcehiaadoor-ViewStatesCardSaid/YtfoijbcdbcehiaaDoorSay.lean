import Derived.Test.YtfoijbcdbcehiaaDoorShow4
import Derived.Test.YtfoijbcdbcehiaaDoorRefWhere
set_option linter.unusedVariables false
set_option linter.unusedSimpArgs false
namespace Go.Proofs.YtfoijbcdbcehiaaDoor.L4
open Go.RowKit Go.Proofs.YtfoijbcdbcehiaaDoorW.PrintWords

theorem ba_list {a b : ByteArray} (h : a.data.toList = b.data.toList) : a = b := by
  cases a; cases b; simp only at h; rw [Array.toList_inj.1 h]
theorem joinS_list (l : List ByteArray) : (joinS l sp).data.toList = Lib.join (l.map (·.data.toList)) [32] := by simp [joinS, sp]
theorem join_cons2 (x y : List UInt8) (l : List (List UInt8)) (sep : List UInt8) : Lib.join (x :: y :: l) sep = x ++ sep ++ Lib.join (y :: l) sep := by
  simp [Lib.join, List.intercalate, List.intersperse]
theorem numS_list (n : Int) : (numS n).data.toList = 32 :: (txt n).data.toList := by rw [numS, ByteArray.data_append]; simp

theorem where_say (n : Int) (s : Sv) : refWhereS n s = joinS (whereW n s) sp := by
  apply ba_list
  rw [joinS_list]
  unfold refWhereS whereW
  by_cases h0 : s.x15 = 0
  · rw [if_pos h0, if_neg (by omega), h0]
    simp only [rwA, phaseS, ByteArray.data_append, Array.toList_append, numS_list, List.map_cons, List.map_nil, List.append_nil, join_cons2, Lib.join_one, if_true, ite_true, List.append_assoc, List.cons_append, List.nil_append]
  rw [if_neg h0]
  by_cases h1 : s.x15 = 1
  · rw [if_pos h1, if_neg (by omega), h1]
    simp [rwA, phaseS, ByteArray.data_append, numS_list, join_cons2, Lib.join_one]
  rw [if_neg h1]
  by_cases h2 : s.x15 = 2
  · rw [if_pos h2, if_neg (by omega), h2]
    simp [rwA, phaseS, ByteArray.data_append, numS_list, join_cons2, Lib.join_one]
  rw [if_neg h2]
  by_cases h3 : s.x15 = 3
  · rw [if_pos h3, if_pos h3, h3]
    by_cases h4 : s.x19 = 0
    · rw [if_pos h4, if_pos h4]
      simp [rwA, phaseS, ByteArray.data_append, numS_list, join_cons2, Lib.join_one]
    · rw [if_neg h4, if_neg h4]
      simp [rwA, rwB, phaseS, ByteArray.data_append, numS_list, join_cons2, Lib.join_one]
  · rw [if_neg h3, if_neg h3]
    simp [rwA, phaseS, ByteArray.data_append, numS_list, join_cons2, Lib.join_one, h0, h1, h2, h3]
end Go.Proofs.YtfoijbcdbcehiaaDoor.L4
