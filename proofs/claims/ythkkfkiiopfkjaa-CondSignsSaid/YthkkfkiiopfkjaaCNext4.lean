import Derived.Test.YthkkfkiiopfkjaaCNext
import Derived.Test.YthkkfkiiopfkjaaPCondSignsx2
import Derived.Test.YthkkfkiiopfkjaaShelf
import Derived.Lib.ConvBytes
set_option linter.unusedVariables false
set_option linter.unusedSimpArgs false
namespace Go.Proofs.Ythkkfkiiopfkjaa.L4
open Go.RowKit Go.Proofs.YthkkfkiiopfkjaaW.PrintWords

/-- the signs, as they are tried -/
def sgs : List ByteArray := [⟨#[33, 61]⟩, ⟨#[60, 61]⟩, ⟨#[62, 61]⟩, ⟨#[61]⟩, ⟨#[60]⟩, ⟨#[62]⟩]
set_option maxRecDepth 100000 in
set_option maxHeartbeats 4000000 in
theorem next_sign (G : Nat) (s : ByteArray) (i0 i : Nat) (c : Int) (m : Nat) (k p n : Int) (q : ByteArray) (d : Int) (w : World) (hs : s.size ≤ 100000) (h : PS G s i0 k p n q d w)
    (h0 : i0 ≤ i) (hsp : ∀ x, i0 ≤ x → x < i → bt s (x : Nat) = 32) (hi : i < s.size) (hc : bt s (i : Nat) = c) (hd : c = 33 ∨ (60 ≤ c ∧ c ≤ 62)) (hm : m < 6) (hno : ∀ y, y < m → Lib.hasPrefix (s.extract i s.size).data.toList (sgs.getD y ⟨#[]⟩).data.toList = false) (hyes : Lib.hasPrefix (s.extract i s.size).data.toList (sgs.getD m ⟨#[]⟩).data.toList = true) :
    Calls Try.prog 11 #[.pointer (some ⟨G, 0, none⟩)] w fun e w' => e = .returned (.tuple #[]) ∧ PS G s (i + (sgs.getD m ⟨#[]⟩).size : Nat) 4 i 0 (sgs.getD m ⟨#[]⟩) d w' ∧ Kp G w w' := by
  go_enter Try.func11, Try.ntmps11
  go_wp2_with fail
  go_loopw [] (fun wr => ∃ x : Nat, i0 ≤ x ∧ x ≤ i ∧ Aside0 (PS G s x k p n q d wr) ∧ Aside0 (Kp G w wr)) (fun wr => i - (intOf ((wr.cell? ⟨G, 1, none⟩).getD undef)).toNat)
  case atStart => exact ⟨i0, Nat.le_refl _, h0, ⟨h⟩, ⟨Kp.refl _ _⟩⟩
  case round =>
    obtain ⟨x, hx0, hx1, hP, hK⟩ := hrel
    have c0 := hP.out.c0
    have c1 := hP.out.c1
    have f1 := hP.out.fz 1
    by_cases hxi : x < i
    · have hb : ∀ h : x < s.size, ((s[x]'h).toNat : Int) = 32 := fun h => (bt_at s x h).trans (hsp x hx0 hxi)
      have q1 : (x < s.size) = True := eq_true (by omega)
      have q2 : ((x : Int) < (s.size : Int)) = True := eq_true (by omega)
      go_wp2_with fail
      go_region
      go_wp2_with fail
      have hP1 := (hP.out.set1 ((x : Int) + 1)).drew
      have hK1 := (hK.out.set 1 (.int .i64 ((x : Int) + 1))).drew
      go_roundw
      case rel => exact ⟨x + 1, by omega, by omega, ⟨hP1⟩, ⟨hK1⟩⟩
      case measure => rw [hP1.c1, c1]; simp [intOf]; omega
    · obtain rfl : x = i := by omega
      have c2 := hP.out.c2
      have c3 := hP.out.c3
      have c4 := hP.out.c4
      have c5 := hP.out.c5
      have f2 := hP.out.fz 2
      have f3 := hP.out.fz 3
      have f4 := hP.out.fz 4
      have f5 := hP.out.fz 5
      have hb := bt_at s x
      simp only [Int.toNat_natCast] at hb
      rw [hc] at hb
      have q1 : (x < s.size) = True := eq_true (by omega)
      have q2 : ((x : Int) < (s.size : Int)) = True := eq_true (by omega)
      have hne : ((x : Int) == (s.size : Int)) = false := by simp; omega
      have h32 : (c == 32) = false := by simp; omega
      have h34 : (c == 34) = false := by simp; omega
      have h40 : (c == 40) = false := by simp; omega
      have h41 : (c == 41) = false := by simp; omega
      have h97 : (97 ≤ c) = False := eq_false (by omega)
      have hdig : (48 ≤ c) = False ∨ ((48 ≤ c) = True ∧ (c ≤ 57) = False) := by
        rcases hd with hd | hd
        · exact .inl (eq_false (by omega))
        · exact .inr ⟨eq_true (by omega), eq_false (by omega)⟩
      rcases hdig with hdig | ⟨hdig, hdig2⟩
      all_goals
        go_wp2_with fail
        go_region
        go_wp2_with fail
        have hbw := below_drew (below_alloc (Below.refl wr.heap.size wr) (.cells #[.string ⟨#[33, 61]⟩, .string ⟨#[60, 61]⟩, .string ⟨#[62, 61]⟩, .string ⟨#[61]⟩, .string ⟨#[60]⟩, .string ⟨#[62]⟩] 9))
        have hnew : (wr.alloc (.cells #[.string ⟨#[33, 61]⟩, .string ⟨#[60, 61]⟩, .string ⟨#[62, 61]⟩, .string ⟨#[61]⟩, .string ⟨#[60]⟩, .string ⟨#[62]⟩] 9)).drew.heap[wr.heap.size]? = some (.cells #[.string ⟨#[33, 61]⟩, .string ⟨#[60, 61]⟩, .string ⟨#[62, 61]⟩, .string ⟨#[61]⟩, .string ⟨#[60]⟩, .string ⟨#[62]⟩] 9 (0, 0)) := heap_alloc_new _ _
        have HP := Aside0.mk (hP.out.below hbw)
        have HK := Aside0.mk (hK.out.trans (Kp.of_below hbw))
        clear hbw hP hK
        generalize wr.heap.size = B at *
        generalize (wr.alloc (.cells #[.string ⟨#[33, 61]⟩, .string ⟨#[60, 61]⟩, .string ⟨#[62, 61]⟩, .string ⟨#[61]⟩, .string ⟨#[60]⟩, .string ⟨#[62]⟩] 9)).drew = W0 at *
        clear c0 c1 c2 c3 c4 c5 f1 f2 f3 f4 f5
        go_loopw [65] (fun v wv => ∃ y : Nat, y ≤ m ∧ v = .int .i64 y ∧ wv = W0) (fun v _ => m - (intOf v).toNat)
        case atStart => exact ⟨0, Nat.zero_le _, rfl, rfl⟩
        case round =>
          obtain ⟨y, hy, rfl, rfl⟩ := hrel
          have HP2 := HP
          have HK2 := HK
          clear HP HK
          have c0 := HP2.out.c0
          have c1 := HP2.out.c1
          have hcy : wr.cell? ⟨B, y, none⟩ = some (.string (sgs.getD y ⟨#[]⟩)) := by
            rw [blk_cell hnew]
            have : y < 6 := by omega
            obtain rfl | rfl | rfl | rfl | rfl | rfl : y = 0 ∨ y = 1 ∨ y = 2 ∨ y = 3 ∨ y = 4 ∨ y = 5 := by omega
            all_goals rfl
          have HN := Aside0.mk hnew
          clear hnew
          have q3 : ((y : Int) < 6) = True := eq_true (by omega)
          have q4 : (y < 6) = True := eq_true (by omega)
          have q5 : ((x : Int) ≤ (s.size : Int)) = True := eq_true (by omega)
          by_cases hym : y < m
          · have hv := hno y hym
            obtain ⟨sg, hsg⟩ : ∃ sg, sgs.getD y ⟨#[]⟩ = sg := ⟨_, rfl⟩
            rw [hsg] at hv hcy
            clear hyes hno hsg
            go_wp2_with (go_at_call 19; refine (Try.strings_HasPrefix _ _ _).mono ?_; rintro e w2 ⟨rfl, rfl⟩; simp only [hv])
            go_roundw
            case rel => exact ⟨y + 1, by omega, by go_num, trivial⟩
            case measure => simp [intOf]; omega
          · obtain rfl : y = m := by omega
            have hv := hyes
            have hsz : (sgs.getD y ⟨#[]⟩).size ≤ 2 := by
              have : y < 6 := hm
              obtain rfl | rfl | rfl | rfl | rfl | rfl : y = 0 ∨ y = 1 ∨ y = 2 ∨ y = 3 ∨ y = 4 ∨ y = 5 := by omega
              all_goals decide
            obtain ⟨sg, hsg⟩ : ∃ sg, sgs.getD y ⟨#[]⟩ = sg := ⟨_, rfl⟩
            rw [hsg] at hv hcy hsz
            have HS := Lib.hid hsg
            clear hyes hno hsg
            have c2 := HP2.out.c2
            have c3 := HP2.out.c3
            have c4 := HP2.out.c4
            have c5 := HP2.out.c5
            have f1 := HP2.out.fz 1
            have f2 := HP2.out.fz 2
            have f3 := HP2.out.fz 3
            have f4 := HP2.out.fz 4
            have f5 := HP2.out.fz 5
            have e9 : wrap64 ((x : Int) + (sg.size : Int)) = (x : Int) + (sg.size : Int) := by unfold wrap64; omega
            go_wp2_with (go_at_call 19; refine (Try.strings_HasPrefix _ _ _).mono ?_; rintro e w2 ⟨rfl, rfl⟩; simp only [hv])
            have hP2 := ((((HP2.out.set1 ((x : Int) + (sg.size : Int))).set2 4).set3 (x : Int)).set4 0).set5 sg
            have hK2 := (((((HK2.out).set 1 (.int .i64 ((x : Int) + (sg.size : Int)))).set 2 (.int .i64 4)).set 3 (.int .i64 x)).set 4 (.int .i64 0)).set 5 (.string sg)
            first
              | go_end0
              | refine bodyPost_ret (results_none rfl _ _ _) rfl ?_
            rw [HS.out, show ((x + sg.size : Nat) : Int) = (x : Int) + (sg.size : Int) by omega]
            exact ⟨rfl, hP2, hK2⟩
end Go.Proofs.Ythkkfkiiopfkjaa.L4
