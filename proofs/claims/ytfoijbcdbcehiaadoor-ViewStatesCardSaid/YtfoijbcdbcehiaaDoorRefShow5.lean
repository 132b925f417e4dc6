import Derived.Test.YtfoijbcdbcehiaaDoorRefShow1
import Derived.Test.YtfoijbcdbcehiaaDoorRefShow2
import Derived.Test.YtfoijbcdbcehiaaDoorRefShow3
import Derived.Test.YtfoijbcdbcehiaaDoorRefShow4
set_option linter.unusedVariables false
set_option linter.unusedSimpArgs false
namespace Go.Proofs.YtfoijbcdbcehiaaDoor.L4
open Go.RowKit Go.Proofs.YtfoijbcdbcehiaaDoorW.PrintWords

theorem rbit_list (b : Bool) : (rbit b).data.toList = 32 :: (bitS b).data.toList := by cases b <;> rfl
theorem regs_say (s : Sv) : rregs s = joinS (regsW s) sp := by
  apply ba_list
  rw [joinS_list]
  simp [rregs, regsW, ByteArray.data_append, numS_list, rbit_list, join_cons2, Lib.join_one]
theorem ba_of {a : ByteArray} {l : List UInt8} (h : a.data.toList = l) : a = ⟨l.toArray⟩ := by cases a; simp only at h; rw [← h]
theorem refShow_any (s : Sv) (what : ByteArray) (w : World) (hs : s.Ok w) (hm : Sm s) :
    Calls Tryd.prog 9 #[s.v, .string what] w fun e w' => ∃ u, e = .returned (.tuple #[u, .bool (showS s what.data.toList).isSome]) ∧ Kd.R Kd.string 9 w' w.heap.size (fun _ => True) u ((showS s what.data.toList).getD []) ∧ Below w.heap.size w w' := by
  generalize hq : what.data.toList = q
  unfold showS
  by_cases c0 : q = k_pattern
  · rw [if_pos c0]; rw [c0] at hq; rw [ba_of hq]; exact refShow_pattern s w hs hm
  rw [if_neg c0]
  by_cases c1 : q = k_hold
  · rw [if_pos c1]; rw [c1] at hq; rw [ba_of hq]; exact refShow_hold s w hs hm
  rw [if_neg c1]
  by_cases c2 : q = k_rest
  · rw [if_pos c2]; rw [c2] at hq; rw [ba_of hq]; exact refShow_rest s w hs hm
  rw [if_neg c2]
  by_cases c3 : q = k_out
  · rw [if_pos c3]; rw [c3] at hq; rw [ba_of hq]; exact refShow_out s w hs hm
  rw [if_neg c3]
  by_cases c4 : q = k_place
  · rw [if_pos c4]; rw [c4] at hq; rw [ba_of hq]; exact refShow_place s w hs hm
  rw [if_neg c4]
  by_cases c5 : q = k_regs
  · rw [if_pos c5]; rw [c5] at hq; rw [ba_of hq, ← regs_say s]; exact refShow_regs s w hs
  rw [if_neg c5]
  by_cases c6 : q = k_waits
  · rw [if_pos c6]; rw [c6] at hq; rw [ba_of hq]; exact refShow_waits s w hs hm
  rw [if_neg c6]
  by_cases c7 : q = k_files
  · rw [if_pos c7]; rw [c7] at hq; rw [ba_of hq]; exact refShow_files s w hs hm
  rw [if_neg c7]
  refine (refShow_none s what w (by rw [hq]; exact ⟨c0, c1, c2, c3, c4, c5, c6, c7⟩)).mono ?_
  rintro e w1 ⟨rfl, hb⟩
  exact ⟨_, rfl, Kd.R_nil _ _ _ _ _, hb⟩
end Go.Proofs.YtfoijbcdbcehiaaDoor.L4
