import Derived.Test.YthkkfkiiopfkjaaCMaps
import Derived.Test.YthkkfkiiopfkjaaWMore
set_option linter.unusedVariables false
set_option linter.unusedSimpArgs false
namespace Go.Proofs.Ythkkfkiiopfkjaa.L4
open Go.RowKit Go.Proofs.YthkkfkiiopfkjaaW.PrintWords

/-- a parser's cells: its text, its place, the piece (kind, place, number, text), its depth -/
def pc (s : ByteArray) (i k p n : Int) (q : ByteArray) (d : Int) : Array Value := #[.string s, .int .i64 i, .int .i64 k, .int .i64 p, .int .i64 n, .string q, .int .i64 d]
/-- block G is a parser -/
structure PS (G : Nat) (s : ByteArray) (i k p n : Int) (q : ByteArray) (d : Int) (w : World) : Prop where mk :: (out : w.heap[G]? = some (.cells (pc s i k p n q d) 52 (0, 0)))
/-- nothing but block G, and what is new, has turned -/
structure Kp (G : Nat) (w w1 : World) : Prop where mk :: (out : w.grownBy w1 (some G))
theorem Kp.refl (G : Nat) (w : World) : Kp G w w := ⟨World.grownBy.refl _ _⟩
theorem Kp.size {G : Nat} {w w1 : World} (h : Kp G w w1) : w.heap.size ≤ w1.heap.size := h.out.size
theorem Kp.trans {G : Nat} {w w1 w2 : World} (h : Kp G w w1) (h2 : Kp G w1 w2) : Kp G w w2 :=
  ⟨⟨h2.out.os.trans h.out.os, h2.out.tape.trans h.out.tape, h2.out.output.trans h.out.output, Nat.le_trans h.out.size h2.out.size, fun i hi hne => (h2.out.block i (Nat.lt_of_lt_of_le hi h.out.size) hne).trans (h.out.block i hi hne)⟩⟩
theorem Kp.drew {G : Nat} {w w1 : World} (h : Kp G w w1) : Kp G w w1.drew := ⟨⟨h.out.os, h.out.tape, h.out.output, h.out.size, h.out.block⟩⟩
theorem Kp.set {G : Nat} {w w1 : World} (h : Kp G w w1) (j : Nat) (v : Value) : Kp G w (w1.setCell ⟨G, j, none⟩ v) :=
  ⟨⟨h.out.os, h.out.tape, h.out.output, by rw [show (w1.setCell ⟨G, j, none⟩ v).heap.size = w1.heap.size by simp [World.setCell]]; exact h.out.size, fun i hi hne => by
    have hg : i ≠ G := fun e => hne (by rw [e])
    exact (Below.heap_setCell w1 ⟨G, j, none⟩ v i hg).trans (h.out.block i hi hne)⟩⟩
theorem Kp.of_below {G : Nat} {w w1 : World} (h : Below w.heap.size w w1) : Kp G w w1 := ⟨⟨h.os, h.tape, h.output, h.size, fun i hi _ => h.block i hi⟩⟩
section
variable {G : Nat} {s : ByteArray} {i k p n : Int} {q : ByteArray} {d : Int} {w w1 : World}
theorem PS.lt (h : PS G s i k p n q d w) : G < w.heap.size := blk_lt h.out
theorem PS.c0 (h : PS G s i k p n q d w) : w.cell? ⟨G, 0, none⟩ = some (.string s) := blk_cell h.out 0
theorem PS.c1 (h : PS G s i k p n q d w) : w.cell? ⟨G, 1, none⟩ = some (.int .i64 i) := blk_cell h.out 1
theorem PS.c2 (h : PS G s i k p n q d w) : w.cell? ⟨G, 2, none⟩ = some (.int .i64 k) := blk_cell h.out 2
theorem PS.c3 (h : PS G s i k p n q d w) : w.cell? ⟨G, 3, none⟩ = some (.int .i64 p) := blk_cell h.out 3
theorem PS.c4 (h : PS G s i k p n q d w) : w.cell? ⟨G, 4, none⟩ = some (.int .i64 n) := blk_cell h.out 4
theorem PS.c5 (h : PS G s i k p n q d w) : w.cell? ⟨G, 5, none⟩ = some (.string q) := blk_cell h.out 5
theorem PS.c6 (h : PS G s i k p n q d w) : w.cell? ⟨G, 6, none⟩ = some (.int .i64 d) := blk_cell h.out 6
theorem PS.fz (h : PS G s i k p n q d w) (j : Nat) : w.frozen? ⟨G, j, none⟩ = false := blk_frozen h.out j
theorem PS.drew (h : PS G s i k p n q d w) : PS G s i k p n q d w.drew := ⟨h.out⟩
theorem PS.below (h : PS G s i k p n q d w) (hb : Below w.heap.size w w1) : PS G s i k p n q d w1 := ⟨blk_below h.out hb⟩
theorem PS.set1 (h : PS G s i k p n q d w) (i1 : Int) : PS G s i1 k p n q d (w.setCell ⟨G, 1, none⟩ (.int .i64 i1)) := ⟨blk_put h.out 1 _ rfl⟩
theorem PS.set2 (h : PS G s i k p n q d w) (x : Int) : PS G s i x p n q d (w.setCell ⟨G, 2, none⟩ (.int .i64 x)) := ⟨blk_put h.out 2 _ rfl⟩
theorem PS.set3 (h : PS G s i k p n q d w) (x : Int) : PS G s i k x n q d (w.setCell ⟨G, 3, none⟩ (.int .i64 x)) := ⟨blk_put h.out 3 _ rfl⟩
theorem PS.set4 (h : PS G s i k p n q d w) (x : Int) : PS G s i k p x q d (w.setCell ⟨G, 4, none⟩ (.int .i64 x)) := ⟨blk_put h.out 4 _ rfl⟩
theorem PS.set5 (h : PS G s i k p n q d w) (x : ByteArray) : PS G s i k p n x d (w.setCell ⟨G, 5, none⟩ (.string x)) := ⟨blk_put h.out 5 _ rfl⟩
theorem PS.set6 (h : PS G s i k p n q d w) (x : Int) : PS G s i k p n q x (w.setCell ⟨G, 6, none⟩ (.int .i64 x)) := ⟨blk_put h.out 6 _ rfl⟩
end

set_option maxRecDepth 100000 in
set_option maxHeartbeats 4000000 in
theorem next_word (G : Nat) (s : ByteArray) (i0 i j : Nat) (k p n : Int) (q : ByteArray) (d : Int) (w : World) (hs : s.size ≤ 100000) (h : PS G s i0 k p n q d w)
    (h0 : i0 ≤ i) (hij : i < j) (hj : j ≤ s.size) (hsp : ∀ x, i0 ≤ x → x < i → bt s (x : Nat) = 32) (hlt : ∀ x, i ≤ x → x < j → 97 ≤ bt s (x : Nat) ∧ bt s (x : Nat) ≤ 122)
    (hend : j = s.size ∨ ¬ (97 ≤ bt s (j : Nat) ∧ bt s (j : Nat) ≤ 122)) (hw : s.extract i j ∈ words) :
    Calls Try.prog 11 #[.pointer (some ⟨G, 0, none⟩)] w fun e w' => e = .returned (.tuple #[]) ∧ PS G s j 1 i 0 (s.extract i j) d w' ∧ Kp G w w' := by
  go_enter Try.func11, Try.ntmps11
  go_wp2_with fail
  go_loopw [] (fun wr => ∃ x : Nat, i0 ≤ x ∧ x ≤ i ∧ Aside0 (PS G s x k p n q d wr) ∧ Aside0 (Kp G w wr)) (fun wr => i - (intOf ((wr.cell? ⟨G, 1, none⟩).getD undef)).toNat)
  case atStart => exact ⟨i0, Nat.le_refl _, h0, ⟨h⟩, ⟨Kp.refl _ _⟩⟩
  case round =>
    obtain ⟨x, hx0, hx1, hP, hK⟩ := hrel
    have c0 := hP.out.c0
    have c1 := hP.out.c1
    have f1 := hP.out.fz 1
    by_cases hxi : x < i
    · have hb : ∀ h : x < s.size, ((s[x]'h).toNat : Int) = 32 := fun h => (bt_at s x h).trans (hsp x hx0 hxi)
      have q1 : (x < s.size) = True := eq_true (by omega)
      have q2 : ((x : Int) < (s.size : Int)) = True := eq_true (by omega)
      go_wp2_with fail
      go_region
      go_wp2_with fail
      have hP1 := (hP.out.set1 ((x : Int) + 1)).drew
      have hK1 := (hK.out.set 1 (.int .i64 ((x : Int) + 1))).drew
      go_roundw
      case rel => exact ⟨x + 1, by omega, by omega, ⟨hP1⟩, ⟨hK1⟩⟩
      case measure => rw [hP1.c1, c1]; simp [intOf]; omega
    · obtain rfl : x = i := by omega
      have hr := hlt x (Nat.le_refl _) hij
      have hb := bt_at s x
      simp only [Int.toNat_natCast] at hb
      obtain ⟨c, hc⟩ : ∃ c, bt s x = c := ⟨_, rfl⟩
      rw [hc] at hb hr
      have q1 : (x < s.size) = True := eq_true (by omega)
      have q2 : ((x : Int) < (s.size : Int)) = True := eq_true (by omega)
      have h32 : (c == 32) = false := by simp; omega
      have hne : ((x : Int) == (s.size : Int)) = false := by simp; omega
      have hr1 := hr.1
      have hr2 := hr.2
      go_wp2_with fail
      go_region
      go_wp2_with fail
      have hP1 := hP.out.drew
      have hK1 := hK.out.drew
      clear c0 c1 f1 hP hK
      generalize wr.drew = w1 at *
      go_loopw [] (fun wr => ∃ y : Nat, x ≤ y ∧ y ≤ j ∧ Aside0 (PS G s y k p n q d wr) ∧ Aside0 (Kp G w wr)) (fun wr => j - (intOf ((wr.cell? ⟨G, 1, none⟩).getD undef)).toNat)
      case atStart => exact ⟨x, Nat.le_refl _, Nat.le_of_lt hij, ⟨hP1⟩, ⟨hK1⟩⟩
      case round =>
        clear hP1 hK1
        obtain ⟨y, hy0, hy1, hP, hK⟩ := hrel
        have c0 := hP.out.c0
        have c1 := hP.out.c1
        have f1 := hP.out.fz 1
        by_cases hyj : y < j
        · have hr' := hlt y hy0 hyj
          have hby := bt_at s y
          simp only [Int.toNat_natCast] at hby
          obtain ⟨c', hc'⟩ : ∃ c', bt s y = c' := ⟨_, rfl⟩
          rw [hc'] at hby hr'
          have q3 : (y < s.size) = True := eq_true (by omega)
          have q4 : ((y : Int) < (s.size : Int)) = True := eq_true (by omega)
          have hr3 := hr'.1
          have hr4 := hr'.2
          go_wp2_with fail
          go_region
          go_wp2_with fail
          have hP1 := (hP.out.set1 ((y : Int) + 1)).drew
          have hK1 := (hK.out.set 1 (.int .i64 ((y : Int) + 1))).drew
          go_roundw
          case rel => exact ⟨y + 1, by omega, by omega, ⟨hP1⟩, ⟨hK1⟩⟩
          case measure => rw [hP1.c1, c1]; simp [intOf]; omega
        · obtain rfl : y = j := by omega
          have hxy : ((x : Int) ≤ (y : Int)) = True := eq_true (by omega)
          have hys : ((y : Int) ≤ (s.size : Int)) = True := eq_true (by omega)
          have f2 := hP.out.fz 2
          have f3 := hP.out.fz 3
          have f4 := hP.out.fz 4
          have f5 := hP.out.fz 5
          have c2 := hP.out.c2
          have c3 := hP.out.c3
          have c4 := hP.out.c4
          have c5 := hP.out.c5
          obtain ⟨c', hc'⟩ : ∃ c', bt s y = c' := ⟨_, rfl⟩
          rw [hc'] at hend
          have hby := bt_at s y
          simp only [Int.toNat_natCast] at hby
          rw [hc'] at hby
          have hcase : ((y : Int) < (s.size : Int)) = False ∨ (((y < s.size) = True ∧ ((y : Int) < (s.size : Int)) = True) ∧ ((97 ≤ c') = False ∨ ((97 ≤ c') = True ∧ (c' ≤ 122) = False))) := by
            rcases hend with hend | hend
            · exact .inl (eq_false (by omega))
            · by_cases hz : y < s.size
              · refine .inr ⟨⟨eq_true hz, eq_true (by omega)⟩, ?_⟩
                by_cases h97 : 97 ≤ c'
                · exact .inr ⟨eq_true h97, eq_false (fun h => hend ⟨h97, h⟩)⟩
                · exact .inl (eq_false h97)
              · exact .inl (eq_false (by omega))
          clear hend
          rcases hcase with q3 | ⟨⟨q3, q4⟩, q5 | ⟨q5, q6⟩⟩
          all_goals
            go_wp2_with fail
            go_region
            go_wp2_with fail
            go_region
            go_wp2_with fail
            refine (isWord_any _ hw _).mono ?_
            rintro e w3 ⟨rfl, hb3⟩
            have hP2 := (((((((hP.out.set2 1).set3 (x : Int)).set4 0).set5 (s.extract x y)).drew).drew).below hb3)
            have hK2 := ((((((hK.out.set 2 (.int .i64 1)).set 3 (.int .i64 x)).set 4 (.int .i64 0)).set 5 (.string (s.extract x y))).drew).drew).trans (Kp.of_below hb3)
            go_wp2_with fail
            first
              | go_end0
              | refine bodyPost_ret (results_none rfl _ _ _) rfl ?_
              | trace_state
            exact ⟨rfl, hP2, hK2⟩
end Go.Proofs.Ythkkfkiiopfkjaa.L4
