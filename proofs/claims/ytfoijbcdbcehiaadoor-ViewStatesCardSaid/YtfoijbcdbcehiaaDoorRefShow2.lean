import Derived.Test.YtfoijbcdbcehiaaDoorRefShow1
import Derived.Test.YtfoijbcdbcehiaaDoorParts
import Derived.KernelRfl
set_option linter.unusedVariables false
set_option linter.unusedSimpArgs false
namespace Go.Proofs.YtfoijbcdbcehiaaDoor.L4
open Go.RowKit Go.Proofs.YtfoijbcdbcehiaaDoorW.PrintWords

def rbit (b : Bool) : ByteArray := if b = true then (⟨#[32, 49]⟩ : ByteArray) else (⟨#[32, 48]⟩ : ByteArray)
theorem rbit_size (b : Bool) : (rbit b).size ≤ 2 := by cases b <;> exact Nat.le_of_eq rfl
theorem refBit_any (b : Bool) (w : World) : Calls Tryd.prog 24 #[.bool b] w fun e w' => e = .returned (.string (rbit b)) ∧ Below w.heap.size w w' := by
  refine (PViewStates.palinoderef30_bit.calls b (rbit b) w (by cases b <;> rfl)).mono ?_
  rintro e w1 ⟨rfl, h⟩
  exact ⟨rfl, h.below⟩
theorem size_app {A B : ByteArray} {m n : Nat} (h1 : A.size ≤ m) (h2 : B.size ≤ n) : (A ++ B).size ≤ m + n := by rw [ByteArray.size_append]; omega
theorem add_ok {A B : ByteArray} {m n : Nat} (h1 : A.size ≤ m) (h2 : B.size ≤ n) (h : m + n ≤ 9223372036854775807) : A.size + B.size ≤ 9223372036854775807 := by omega
def rregs (s : Sv) : ByteArray := ((((((((((((((((⟨#[110, 108]⟩ : ByteArray) ++ (rbit (s.x2))) ++ (⟨#[32, 115, 117, 98, 115, 116]⟩ : ByteArray)) ++ (rbit (s.x4))) ++ (⟨#[32, 108, 97, 115, 116]⟩ : ByteArray)) ++ (numS (s.x5))) ++ (⟨#[32, 115, 105, 108, 101, 110, 116]⟩ : ByteArray)) ++ (rbit (s.x20))) ++ (⟨#[32, 113, 117, 105, 116]⟩ : ByteArray)) ++ (rbit (s.x21))) ++ (⟨#[32, 97, 103, 97, 105, 110]⟩ : ByteArray)) ++ (rbit (s.x22))) ++ (⟨#[32, 99, 117, 114]⟩ : ByteArray)) ++ (numS (s.x8))) ++ (⟨#[32, 109, 105, 115, 115, 105, 110, 103]⟩ : ByteArray)) ++ (numS (s.x9)))

set_option maxRecDepth 100000 in
set_option maxHeartbeats 20000000 in
theorem refShow_regs (s : Sv) (w : World) (hs : s.Ok w) : Calls Tryd.prog 9 #[s.v, .string (⟨#[114, 101, 103, 115]⟩ : ByteArray)] w (Shown w [rregs s]) := by
  have HN := Lib.hid (And.intro hs.n5 (And.intro hs.n8 hs.n9))
  have HI := InB.new s w
  unfold InB at HI
  have kB := (Below.refl w.heap.size w).alloc (Nat.le_refl _) (.cells s.cells 34)
  have HC2 := Lib.hid (fun (W : World) (h : W.heap[w.heap.size]? = some (.cells s.cells 34 (0, 0))) => (show W.cell? ⟨w.heap.size, 2, none⟩ = some (.bool s.x2) from InB.cell (s := s) h 2))
  have HC4 := Lib.hid (fun (W : World) (h : W.heap[w.heap.size]? = some (.cells s.cells 34 (0, 0))) => (show W.cell? ⟨w.heap.size, 4, none⟩ = some (.bool s.x4) from InB.cell (s := s) h 4))
  have HC5 := Lib.hid (fun (W : World) (h : W.heap[w.heap.size]? = some (.cells s.cells 34 (0, 0))) => (show W.cell? ⟨w.heap.size, 5, none⟩ = some (.int .i64 s.x5) from InB.cell (s := s) h 5))
  have HC8 := Lib.hid (fun (W : World) (h : W.heap[w.heap.size]? = some (.cells s.cells 34 (0, 0))) => (show W.cell? ⟨w.heap.size, 8, none⟩ = some (.int .i64 s.x8) from InB.cell (s := s) h 8))
  have HC9 := Lib.hid (fun (W : World) (h : W.heap[w.heap.size]? = some (.cells s.cells 34 (0, 0))) => (show W.cell? ⟨w.heap.size, 9, none⟩ = some (.int .i64 s.x9) from InB.cell (s := s) h 9))
  have HC20 := Lib.hid (fun (W : World) (h : W.heap[w.heap.size]? = some (.cells s.cells 34 (0, 0))) => (show W.cell? ⟨w.heap.size, 20, none⟩ = some (.bool s.x20) from InB.cell (s := s) h 20))
  have HC21 := Lib.hid (fun (W : World) (h : W.heap[w.heap.size]? = some (.cells s.cells 34 (0, 0))) => (show W.cell? ⟨w.heap.size, 21, none⟩ = some (.bool s.x21) from InB.cell (s := s) h 21))
  have HC22 := Lib.hid (fun (W : World) (h : W.heap[w.heap.size]? = some (.cells s.cells 34 (0, 0))) => (show W.cell? ⟨w.heap.size, 22, none⟩ = some (.bool s.x22) from InB.cell (s := s) h 22))
  clear hs
  unfold Sv.v
  generalize s.cells = cs at *
  go_enter Tryd.func9, Tryd.ntmps9
  go_wp2_with fail
  generalize w.alloc (.cells cs 34) = w1 at *
  refine wp_region_held (S := fun w' => w'.heap[w.heap.size]? = some (.cells cs 34 (0, 0))) (by kernel_rfl) ?_
  change wpAnyH _ _ _ _ _ _ _ _ w1.drew
  have gI : w1.drew.heap[w.heap.size]? = some (.cells cs 34 (0, 0)) := HI
  replace kB := below_drew kB
  clear HI
  generalize w1.drew = Wq at *
  refine take_ (i := 0) (N := some 49) (oi := _) (v := .pointer (some ⟨w.heap.size, 0, none⟩)) rfl rfl (by kernel_rfl) (by kernel_rfl) (by kernel_rfl) (fun _ _ _ h => h) (Or.inl ⟨by rfl, ?_⟩) gI ?_
  · intro w2 qI; go_simp
  simp only [Act.put, List.setIfInBounds_toArray, List.set_cons_zero, List.set_cons_succ]
  refine take_ (i := 1) (N := some 50) (oi := _) (v := .pointer (some ⟨w.heap.size, 2, none⟩)) rfl rfl (by kernel_rfl) (by kernel_rfl) (by kernel_rfl) (fun _ _ _ h => h) (Or.inl ⟨by rfl, ?_⟩) gI ?_
  · intro w2 qI; go_simp
  simp only [Act.put, List.setIfInBounds_toArray, List.set_cons_zero, List.set_cons_succ]
  refine take_ (i := 2) (N := some 51) (oi := _) (v := .bool (s.x2)) rfl rfl (by kernel_rfl) (by kernel_rfl) (by kernel_rfl) (fun _ _ _ h => h) (Or.inl ⟨by rfl, ?_⟩) gI ?_
  · intro w2 qI; have q := HC2.out w2 qI; go_simp
  simp only [Act.put, List.setIfInBounds_toArray, List.set_cons_zero, List.set_cons_succ]
  refine take_ (i := 6) (N := some 55) (oi := _) (v := .pointer (some ⟨w.heap.size, 0, none⟩)) rfl rfl (by kernel_rfl) (by kernel_rfl) (by kernel_rfl) (fun _ _ _ h => h) (Or.inl ⟨by rfl, ?_⟩) gI ?_
  · intro w2 qI; go_simp
  simp only [Act.put, List.setIfInBounds_toArray, List.set_cons_zero, List.set_cons_succ]
  refine take_ (i := 7) (N := some 56) (oi := _) (v := .pointer (some ⟨w.heap.size, 4, none⟩)) rfl rfl (by kernel_rfl) (by kernel_rfl) (by kernel_rfl) (fun _ _ _ h => h) (Or.inl ⟨by rfl, ?_⟩) gI ?_
  · intro w2 qI; go_simp
  simp only [Act.put, List.setIfInBounds_toArray, List.set_cons_zero, List.set_cons_succ]
  refine take_ (i := 8) (N := some 57) (oi := _) (v := .bool (s.x4)) rfl rfl (by kernel_rfl) (by kernel_rfl) (by kernel_rfl) (fun _ _ _ h => h) (Or.inl ⟨by rfl, ?_⟩) gI ?_
  · intro w2 qI; have q := HC4.out w2 qI; go_simp
  simp only [Act.put, List.setIfInBounds_toArray, List.set_cons_zero, List.set_cons_succ]
  refine take_ (i := 12) (N := some 61) (oi := _) (v := .pointer (some ⟨w.heap.size, 0, none⟩)) rfl rfl (by kernel_rfl) (by kernel_rfl) (by kernel_rfl) (fun _ _ _ h => h) (Or.inl ⟨by rfl, ?_⟩) gI ?_
  · intro w2 qI; go_simp
  simp only [Act.put, List.setIfInBounds_toArray, List.set_cons_zero, List.set_cons_succ]
  refine take_ (i := 13) (N := some 62) (oi := _) (v := .pointer (some ⟨w.heap.size, 5, none⟩)) rfl rfl (by kernel_rfl) (by kernel_rfl) (by kernel_rfl) (fun _ _ _ h => h) (Or.inl ⟨by rfl, ?_⟩) gI ?_
  · intro w2 qI; go_simp
  simp only [Act.put, List.setIfInBounds_toArray, List.set_cons_zero, List.set_cons_succ]
  refine take_ (i := 14) (N := some 63) (oi := _) (v := .int .i64 (s.x5)) rfl rfl (by kernel_rfl) (by kernel_rfl) (by kernel_rfl) (fun _ _ _ h => h) (Or.inl ⟨by rfl, ?_⟩) gI ?_
  · intro w2 qI; have q := HC5.out w2 qI; go_simp
  simp only [Act.put, List.setIfInBounds_toArray, List.set_cons_zero, List.set_cons_succ]
  refine take_ (i := 18) (N := some 67) (oi := _) (v := .pointer (some ⟨w.heap.size, 20, none⟩)) rfl rfl (by kernel_rfl) (by kernel_rfl) (by kernel_rfl) (fun _ _ _ h => h) (Or.inl ⟨by rfl, ?_⟩) gI ?_
  · intro w2 qI; go_simp
  simp only [Act.put, List.setIfInBounds_toArray, List.set_cons_zero, List.set_cons_succ]
  refine take_ (i := 19) (N := some 68) (oi := _) (v := .bool (s.x20)) rfl rfl (by kernel_rfl) (by kernel_rfl) (by kernel_rfl) (fun _ _ _ h => h) (Or.inl ⟨by rfl, ?_⟩) gI ?_
  · intro w2 qI; have q := HC20.out w2 qI; go_simp
  simp only [Act.put, List.setIfInBounds_toArray, List.set_cons_zero, List.set_cons_succ]
  refine take_ (i := 23) (N := some 72) (oi := _) (v := .pointer (some ⟨w.heap.size, 21, none⟩)) rfl rfl (by kernel_rfl) (by kernel_rfl) (by kernel_rfl) (fun _ _ _ h => h) (Or.inl ⟨by rfl, ?_⟩) gI ?_
  · intro w2 qI; go_simp
  simp only [Act.put, List.setIfInBounds_toArray, List.set_cons_zero, List.set_cons_succ]
  refine take_ (i := 24) (N := some 73) (oi := _) (v := .bool (s.x21)) rfl rfl (by kernel_rfl) (by kernel_rfl) (by kernel_rfl) (fun _ _ _ h => h) (Or.inl ⟨by rfl, ?_⟩) gI ?_
  · intro w2 qI; have q := HC21.out w2 qI; go_simp
  simp only [Act.put, List.setIfInBounds_toArray, List.set_cons_zero, List.set_cons_succ]
  refine take_ (i := 28) (N := some 77) (oi := _) (v := .pointer (some ⟨w.heap.size, 22, none⟩)) rfl rfl (by kernel_rfl) (by kernel_rfl) (by kernel_rfl) (fun _ _ _ h => h) (Or.inl ⟨by rfl, ?_⟩) gI ?_
  · intro w2 qI; go_simp
  simp only [Act.put, List.setIfInBounds_toArray, List.set_cons_zero, List.set_cons_succ]
  refine take_ (i := 29) (N := some 78) (oi := _) (v := .bool (s.x22)) rfl rfl (by kernel_rfl) (by kernel_rfl) (by kernel_rfl) (fun _ _ _ h => h) (Or.inl ⟨by rfl, ?_⟩) gI ?_
  · intro w2 qI; have q := HC22.out w2 qI; go_simp
  simp only [Act.put, List.setIfInBounds_toArray, List.set_cons_zero, List.set_cons_succ]
  refine take_ (i := 33) (N := some 82) (oi := _) (v := .pointer (some ⟨w.heap.size, 6, none⟩)) rfl rfl (by kernel_rfl) (by kernel_rfl) (by kernel_rfl) (fun _ _ _ h => h) (Or.inl ⟨by rfl, ?_⟩) gI ?_
  · intro w2 qI; go_simp
  simp only [Act.put, List.setIfInBounds_toArray, List.set_cons_zero, List.set_cons_succ]
  refine take_ (i := 34) (N := some 83) (oi := _) (v := .pointer (some ⟨w.heap.size, 8, none⟩)) rfl rfl (by kernel_rfl) (by kernel_rfl) (by kernel_rfl) (fun _ _ _ h => h) (Or.inl ⟨by rfl, ?_⟩) gI ?_
  · intro w2 qI; go_simp
  simp only [Act.put, List.setIfInBounds_toArray, List.set_cons_zero, List.set_cons_succ]
  refine take_ (i := 35) (N := some 84) (oi := _) (v := .int .i64 (s.x8)) rfl rfl (by kernel_rfl) (by kernel_rfl) (by kernel_rfl) (fun _ _ _ h => h) (Or.inl ⟨by rfl, ?_⟩) gI ?_
  · intro w2 qI; have q := HC8.out w2 qI; go_simp
  simp only [Act.put, List.setIfInBounds_toArray, List.set_cons_zero, List.set_cons_succ]
  refine take_ (i := 39) (N := some 88) (oi := _) (v := .pointer (some ⟨w.heap.size, 6, none⟩)) rfl rfl (by kernel_rfl) (by kernel_rfl) (by kernel_rfl) (fun _ _ _ h => h) (Or.inl ⟨by rfl, ?_⟩) gI ?_
  · intro w2 qI; go_simp
  simp only [Act.put, List.setIfInBounds_toArray, List.set_cons_zero, List.set_cons_succ]
  refine take_ (i := 40) (N := some 89) (oi := _) (v := .pointer (some ⟨w.heap.size, 9, none⟩)) rfl rfl (by kernel_rfl) (by kernel_rfl) (by kernel_rfl) (fun _ _ _ h => h) (Or.inl ⟨by rfl, ?_⟩) gI ?_
  · intro w2 qI; go_simp
  simp only [Act.put, List.setIfInBounds_toArray, List.set_cons_zero, List.set_cons_succ]
  refine take_ (i := 41) (N := some 90) (oi := _) (v := .int .i64 (s.x9)) rfl rfl (by kernel_rfl) (by kernel_rfl) (by kernel_rfl) (fun _ _ _ h => h) (Or.inl ⟨by rfl, ?_⟩) gI ?_
  · intro w2 qI; have q := HC9.out w2 qI; go_simp
  simp only [Act.put, List.setIfInBounds_toArray, List.set_cons_zero, List.set_cons_succ]
  refine wpAnyH_one (i := 3) (by kernel_rfl) ?_
  refine wpOp_callN (N := some 52) (f := 24) (args := #[.bool (s.x2)]) (w1 := Wq) rfl rfl rfl (by go_simp) ?_
  refine (refBit_any (s.x2) _).mono ?_
  rintro e Wr1 ⟨rfl, hbr⟩
  refine ⟨_, rfl, (hbr.block _ (blk_lt gI)).trans gI, ?_⟩
  have z0 := Lib.hid (show (rbit (s.x2)).size ≤ 2 from rbit_size _)
  simp only [Act.put, List.setIfInBounds_toArray, List.set_cons_zero, List.set_cons_succ]
  replace gI := (hbr.block _ (blk_lt gI)).trans gI
  replace kB := kB.trans (hbr.mono kB.size)
  clear hbr
  have z1 := Lib.hid (show ((⟨#[110, 108]⟩ : ByteArray)).size ≤ 2 from Nat.le_of_eq rfl)
  obtain ⟨T0_, hT0_⟩ : ∃ T : ByteArray, T = (⟨#[110, 108]⟩ : ByteArray) ++ (rbit (s.x2)) := ⟨_, rfl⟩
  have z2 := Lib.hid (show T0_.size ≤ 4 by rw [hT0_]; exact size_app z1.out z0.out)
  refine take_ (i := 4) (N := some 53) (oi := _) (v := .string (T0_)) rfl rfl (by kernel_rfl) (by kernel_rfl) (by kernel_rfl) (fun _ _ _ h => h) (Or.inl ⟨by rfl, ?_⟩) gI ?_
  · intro w2 qI; rw [hT0_]; exact run_add_str rfl rfl rfl (add_ok z1.out z0.out (by decide))
  simp only [Act.put, List.setIfInBounds_toArray, List.set_cons_zero, List.set_cons_succ]
  have HT0_ := Lib.hid hT0_
  clear hT0_
  have z3 := Lib.hid (show ((⟨#[32, 115, 117, 98, 115, 116]⟩ : ByteArray)).size ≤ 6 from Nat.le_of_eq rfl)
  obtain ⟨T1_, hT1_⟩ : ∃ T : ByteArray, T = T0_ ++ (⟨#[32, 115, 117, 98, 115, 116]⟩ : ByteArray) := ⟨_, rfl⟩
  have z4 := Lib.hid (show T1_.size ≤ 10 by rw [hT1_]; exact size_app z2.out z3.out)
  refine take_ (i := 5) (N := some 54) (oi := _) (v := .string (T1_)) rfl rfl (by kernel_rfl) (by kernel_rfl) (by kernel_rfl) (fun _ _ _ h => h) (Or.inl ⟨by rfl, ?_⟩) gI ?_
  · intro w2 qI; rw [hT1_]; exact run_add_str rfl rfl rfl (add_ok z2.out z3.out (by decide))
  simp only [Act.put, List.setIfInBounds_toArray, List.set_cons_zero, List.set_cons_succ]
  have HT1_ := Lib.hid hT1_
  clear hT1_
  refine wpAnyH_one (i := 9) (by kernel_rfl) ?_
  refine wpOp_callN (N := some 58) (f := 24) (args := #[.bool (s.x4)]) (w1 := Wr1) rfl rfl rfl (by go_simp) ?_
  refine (refBit_any (s.x4) _).mono ?_
  rintro e Wr2 ⟨rfl, hbr⟩
  refine ⟨_, rfl, (hbr.block _ (blk_lt gI)).trans gI, ?_⟩
  have z5 := Lib.hid (show (rbit (s.x4)).size ≤ 2 from rbit_size _)
  simp only [Act.put, List.setIfInBounds_toArray, List.set_cons_zero, List.set_cons_succ]
  replace gI := (hbr.block _ (blk_lt gI)).trans gI
  replace kB := kB.trans (hbr.mono kB.size)
  clear hbr
  obtain ⟨T2_, hT2_⟩ : ∃ T : ByteArray, T = T1_ ++ (rbit (s.x4)) := ⟨_, rfl⟩
  have z6 := Lib.hid (show T2_.size ≤ 12 by rw [hT2_]; exact size_app z4.out z5.out)
  refine take_ (i := 10) (N := some 59) (oi := _) (v := .string (T2_)) rfl rfl (by kernel_rfl) (by kernel_rfl) (by kernel_rfl) (fun _ _ _ h => h) (Or.inl ⟨by rfl, ?_⟩) gI ?_
  · intro w2 qI; rw [hT2_]; exact run_add_str rfl rfl rfl (add_ok z4.out z5.out (by decide))
  simp only [Act.put, List.setIfInBounds_toArray, List.set_cons_zero, List.set_cons_succ]
  have HT2_ := Lib.hid hT2_
  clear hT2_
  have z7 := Lib.hid (show ((⟨#[32, 108, 97, 115, 116]⟩ : ByteArray)).size ≤ 5 from Nat.le_of_eq rfl)
  obtain ⟨T3_, hT3_⟩ : ∃ T : ByteArray, T = T2_ ++ (⟨#[32, 108, 97, 115, 116]⟩ : ByteArray) := ⟨_, rfl⟩
  have z8 := Lib.hid (show T3_.size ≤ 17 by rw [hT3_]; exact size_app z6.out z7.out)
  refine take_ (i := 11) (N := some 60) (oi := _) (v := .string (T3_)) rfl rfl (by kernel_rfl) (by kernel_rfl) (by kernel_rfl) (fun _ _ _ h => h) (Or.inl ⟨by rfl, ?_⟩) gI ?_
  · intro w2 qI; rw [hT3_]; exact run_add_str rfl rfl rfl (add_ok z6.out z7.out (by decide))
  simp only [Act.put, List.setIfInBounds_toArray, List.set_cons_zero, List.set_cons_succ]
  have HT3_ := Lib.hid hT3_
  clear hT3_
  refine wpAnyH_one (i := 15) (by kernel_rfl) ?_
  refine wpOp_callN (N := some 64) (f := 16) (args := #[.int .i64 (s.x5)]) (w1 := Wr2) rfl rfl rfl (by go_simp) ?_
  refine (num_any (s.x5) HN.out.1 _).mono ?_
  rintro e Wr3 ⟨rfl, hbr⟩
  refine ⟨_, rfl, (hbr.block _ (blk_lt gI)).trans gI, ?_⟩
  have z9 := Lib.hid (show (numS (s.x5)).size ≤ 21 from numS_size _ HN.out.1)
  simp only [Act.put, List.setIfInBounds_toArray, List.set_cons_zero, List.set_cons_succ]
  replace gI := (hbr.block _ (blk_lt gI)).trans gI
  replace kB := kB.trans (hbr.mono kB.size)
  clear hbr
  obtain ⟨T4_, hT4_⟩ : ∃ T : ByteArray, T = T3_ ++ (numS (s.x5)) := ⟨_, rfl⟩
  have z10 := Lib.hid (show T4_.size ≤ 38 by rw [hT4_]; exact size_app z8.out z9.out)
  refine take_ (i := 16) (N := some 65) (oi := _) (v := .string (T4_)) rfl rfl (by kernel_rfl) (by kernel_rfl) (by kernel_rfl) (fun _ _ _ h => h) (Or.inl ⟨by rfl, ?_⟩) gI ?_
  · intro w2 qI; rw [hT4_]; exact run_add_str rfl rfl rfl (add_ok z8.out z9.out (by decide))
  simp only [Act.put, List.setIfInBounds_toArray, List.set_cons_zero, List.set_cons_succ]
  have HT4_ := Lib.hid hT4_
  clear hT4_
  have z11 := Lib.hid (show ((⟨#[32, 115, 105, 108, 101, 110, 116]⟩ : ByteArray)).size ≤ 7 from Nat.le_of_eq rfl)
  obtain ⟨T5_, hT5_⟩ : ∃ T : ByteArray, T = T4_ ++ (⟨#[32, 115, 105, 108, 101, 110, 116]⟩ : ByteArray) := ⟨_, rfl⟩
  have z12 := Lib.hid (show T5_.size ≤ 45 by rw [hT5_]; exact size_app z10.out z11.out)
  refine take_ (i := 17) (N := some 66) (oi := _) (v := .string (T5_)) rfl rfl (by kernel_rfl) (by kernel_rfl) (by kernel_rfl) (fun _ _ _ h => h) (Or.inl ⟨by rfl, ?_⟩) gI ?_
  · intro w2 qI; rw [hT5_]; exact run_add_str rfl rfl rfl (add_ok z10.out z11.out (by decide))
  simp only [Act.put, List.setIfInBounds_toArray, List.set_cons_zero, List.set_cons_succ]
  have HT5_ := Lib.hid hT5_
  clear hT5_
  refine wpAnyH_one (i := 20) (by kernel_rfl) ?_
  refine wpOp_callN (N := some 69) (f := 24) (args := #[.bool (s.x20)]) (w1 := Wr3) rfl rfl rfl (by go_simp) ?_
  refine (refBit_any (s.x20) _).mono ?_
  rintro e Wr4 ⟨rfl, hbr⟩
  refine ⟨_, rfl, (hbr.block _ (blk_lt gI)).trans gI, ?_⟩
  have z13 := Lib.hid (show (rbit (s.x20)).size ≤ 2 from rbit_size _)
  simp only [Act.put, List.setIfInBounds_toArray, List.set_cons_zero, List.set_cons_succ]
  replace gI := (hbr.block _ (blk_lt gI)).trans gI
  replace kB := kB.trans (hbr.mono kB.size)
  clear hbr
  obtain ⟨T6_, hT6_⟩ : ∃ T : ByteArray, T = T5_ ++ (rbit (s.x20)) := ⟨_, rfl⟩
  have z14 := Lib.hid (show T6_.size ≤ 47 by rw [hT6_]; exact size_app z12.out z13.out)
  refine take_ (i := 21) (N := some 70) (oi := _) (v := .string (T6_)) rfl rfl (by kernel_rfl) (by kernel_rfl) (by kernel_rfl) (fun _ _ _ h => h) (Or.inl ⟨by rfl, ?_⟩) gI ?_
  · intro w2 qI; rw [hT6_]; exact run_add_str rfl rfl rfl (add_ok z12.out z13.out (by decide))
  simp only [Act.put, List.setIfInBounds_toArray, List.set_cons_zero, List.set_cons_succ]
  have HT6_ := Lib.hid hT6_
  clear hT6_
  have z15 := Lib.hid (show ((⟨#[32, 113, 117, 105, 116]⟩ : ByteArray)).size ≤ 5 from Nat.le_of_eq rfl)
  obtain ⟨T7_, hT7_⟩ : ∃ T : ByteArray, T = T6_ ++ (⟨#[32, 113, 117, 105, 116]⟩ : ByteArray) := ⟨_, rfl⟩
  have z16 := Lib.hid (show T7_.size ≤ 52 by rw [hT7_]; exact size_app z14.out z15.out)
  refine take_ (i := 22) (N := some 71) (oi := _) (v := .string (T7_)) rfl rfl (by kernel_rfl) (by kernel_rfl) (by kernel_rfl) (fun _ _ _ h => h) (Or.inl ⟨by rfl, ?_⟩) gI ?_
  · intro w2 qI; rw [hT7_]; exact run_add_str rfl rfl rfl (add_ok z14.out z15.out (by decide))
  simp only [Act.put, List.setIfInBounds_toArray, List.set_cons_zero, List.set_cons_succ]
  have HT7_ := Lib.hid hT7_
  clear hT7_
  refine wpAnyH_one (i := 25) (by kernel_rfl) ?_
  refine wpOp_callN (N := some 74) (f := 24) (args := #[.bool (s.x21)]) (w1 := Wr4) rfl rfl rfl (by go_simp) ?_
  refine (refBit_any (s.x21) _).mono ?_
  rintro e Wr5 ⟨rfl, hbr⟩
  refine ⟨_, rfl, (hbr.block _ (blk_lt gI)).trans gI, ?_⟩
  have z17 := Lib.hid (show (rbit (s.x21)).size ≤ 2 from rbit_size _)
  simp only [Act.put, List.setIfInBounds_toArray, List.set_cons_zero, List.set_cons_succ]
  replace gI := (hbr.block _ (blk_lt gI)).trans gI
  replace kB := kB.trans (hbr.mono kB.size)
  clear hbr
  obtain ⟨T8_, hT8_⟩ : ∃ T : ByteArray, T = T7_ ++ (rbit (s.x21)) := ⟨_, rfl⟩
  have z18 := Lib.hid (show T8_.size ≤ 54 by rw [hT8_]; exact size_app z16.out z17.out)
  refine take_ (i := 26) (N := some 75) (oi := _) (v := .string (T8_)) rfl rfl (by kernel_rfl) (by kernel_rfl) (by kernel_rfl) (fun _ _ _ h => h) (Or.inl ⟨by rfl, ?_⟩) gI ?_
  · intro w2 qI; rw [hT8_]; exact run_add_str rfl rfl rfl (add_ok z16.out z17.out (by decide))
  simp only [Act.put, List.setIfInBounds_toArray, List.set_cons_zero, List.set_cons_succ]
  have HT8_ := Lib.hid hT8_
  clear hT8_
  have z19 := Lib.hid (show ((⟨#[32, 97, 103, 97, 105, 110]⟩ : ByteArray)).size ≤ 6 from Nat.le_of_eq rfl)
  obtain ⟨T9_, hT9_⟩ : ∃ T : ByteArray, T = T8_ ++ (⟨#[32, 97, 103, 97, 105, 110]⟩ : ByteArray) := ⟨_, rfl⟩
  have z20 := Lib.hid (show T9_.size ≤ 60 by rw [hT9_]; exact size_app z18.out z19.out)
  refine take_ (i := 27) (N := some 76) (oi := _) (v := .string (T9_)) rfl rfl (by kernel_rfl) (by kernel_rfl) (by kernel_rfl) (fun _ _ _ h => h) (Or.inl ⟨by rfl, ?_⟩) gI ?_
  · intro w2 qI; rw [hT9_]; exact run_add_str rfl rfl rfl (add_ok z18.out z19.out (by decide))
  simp only [Act.put, List.setIfInBounds_toArray, List.set_cons_zero, List.set_cons_succ]
  have HT9_ := Lib.hid hT9_
  clear hT9_
  refine wpAnyH_one (i := 30) (by kernel_rfl) ?_
  refine wpOp_callN (N := some 79) (f := 24) (args := #[.bool (s.x22)]) (w1 := Wr5) rfl rfl rfl (by go_simp) ?_
  refine (refBit_any (s.x22) _).mono ?_
  rintro e Wr6 ⟨rfl, hbr⟩
  refine ⟨_, rfl, (hbr.block _ (blk_lt gI)).trans gI, ?_⟩
  have z21 := Lib.hid (show (rbit (s.x22)).size ≤ 2 from rbit_size _)
  simp only [Act.put, List.setIfInBounds_toArray, List.set_cons_zero, List.set_cons_succ]
  replace gI := (hbr.block _ (blk_lt gI)).trans gI
  replace kB := kB.trans (hbr.mono kB.size)
  clear hbr
  obtain ⟨T10_, hT10_⟩ : ∃ T : ByteArray, T = T9_ ++ (rbit (s.x22)) := ⟨_, rfl⟩
  have z22 := Lib.hid (show T10_.size ≤ 62 by rw [hT10_]; exact size_app z20.out z21.out)
  refine take_ (i := 31) (N := some 80) (oi := _) (v := .string (T10_)) rfl rfl (by kernel_rfl) (by kernel_rfl) (by kernel_rfl) (fun _ _ _ h => h) (Or.inl ⟨by rfl, ?_⟩) gI ?_
  · intro w2 qI; rw [hT10_]; exact run_add_str rfl rfl rfl (add_ok z20.out z21.out (by decide))
  simp only [Act.put, List.setIfInBounds_toArray, List.set_cons_zero, List.set_cons_succ]
  have HT10_ := Lib.hid hT10_
  clear hT10_
  have z23 := Lib.hid (show ((⟨#[32, 99, 117, 114]⟩ : ByteArray)).size ≤ 4 from Nat.le_of_eq rfl)
  obtain ⟨T11_, hT11_⟩ : ∃ T : ByteArray, T = T10_ ++ (⟨#[32, 99, 117, 114]⟩ : ByteArray) := ⟨_, rfl⟩
  have z24 := Lib.hid (show T11_.size ≤ 66 by rw [hT11_]; exact size_app z22.out z23.out)
  refine take_ (i := 32) (N := some 81) (oi := _) (v := .string (T11_)) rfl rfl (by kernel_rfl) (by kernel_rfl) (by kernel_rfl) (fun _ _ _ h => h) (Or.inl ⟨by rfl, ?_⟩) gI ?_
  · intro w2 qI; rw [hT11_]; exact run_add_str rfl rfl rfl (add_ok z22.out z23.out (by decide))
  simp only [Act.put, List.setIfInBounds_toArray, List.set_cons_zero, List.set_cons_succ]
  have HT11_ := Lib.hid hT11_
  clear hT11_
  refine wpAnyH_one (i := 36) (by kernel_rfl) ?_
  refine wpOp_callN (N := some 85) (f := 16) (args := #[.int .i64 (s.x8)]) (w1 := Wr6) rfl rfl rfl (by go_simp) ?_
  refine (num_any (s.x8) HN.out.2.1 _).mono ?_
  rintro e Wr7 ⟨rfl, hbr⟩
  refine ⟨_, rfl, (hbr.block _ (blk_lt gI)).trans gI, ?_⟩
  have z25 := Lib.hid (show (numS (s.x8)).size ≤ 21 from numS_size _ HN.out.2.1)
  simp only [Act.put, List.setIfInBounds_toArray, List.set_cons_zero, List.set_cons_succ]
  replace gI := (hbr.block _ (blk_lt gI)).trans gI
  replace kB := kB.trans (hbr.mono kB.size)
  clear hbr
  obtain ⟨T12_, hT12_⟩ : ∃ T : ByteArray, T = T11_ ++ (numS (s.x8)) := ⟨_, rfl⟩
  have z26 := Lib.hid (show T12_.size ≤ 87 by rw [hT12_]; exact size_app z24.out z25.out)
  refine take_ (i := 37) (N := some 86) (oi := _) (v := .string (T12_)) rfl rfl (by kernel_rfl) (by kernel_rfl) (by kernel_rfl) (fun _ _ _ h => h) (Or.inl ⟨by rfl, ?_⟩) gI ?_
  · intro w2 qI; rw [hT12_]; exact run_add_str rfl rfl rfl (add_ok z24.out z25.out (by decide))
  simp only [Act.put, List.setIfInBounds_toArray, List.set_cons_zero, List.set_cons_succ]
  have HT12_ := Lib.hid hT12_
  clear hT12_
  have z27 := Lib.hid (show ((⟨#[32, 109, 105, 115, 115, 105, 110, 103]⟩ : ByteArray)).size ≤ 8 from Nat.le_of_eq rfl)
  obtain ⟨T13_, hT13_⟩ : ∃ T : ByteArray, T = T12_ ++ (⟨#[32, 109, 105, 115, 115, 105, 110, 103]⟩ : ByteArray) := ⟨_, rfl⟩
  have z28 := Lib.hid (show T13_.size ≤ 95 by rw [hT13_]; exact size_app z26.out z27.out)
  refine take_ (i := 38) (N := some 87) (oi := _) (v := .string (T13_)) rfl rfl (by kernel_rfl) (by kernel_rfl) (by kernel_rfl) (fun _ _ _ h => h) (Or.inl ⟨by rfl, ?_⟩) gI ?_
  · intro w2 qI; rw [hT13_]; exact run_add_str rfl rfl rfl (add_ok z26.out z27.out (by decide))
  simp only [Act.put, List.setIfInBounds_toArray, List.set_cons_zero, List.set_cons_succ]
  have HT13_ := Lib.hid hT13_
  clear hT13_
  refine wpAnyH_one (i := 42) (by kernel_rfl) ?_
  refine wpOp_callN (N := some 91) (f := 16) (args := #[.int .i64 (s.x9)]) (w1 := Wr7) rfl rfl rfl (by go_simp) ?_
  refine (num_any (s.x9) HN.out.2.2 _).mono ?_
  rintro e Wr8 ⟨rfl, hbr⟩
  refine ⟨_, rfl, (hbr.block _ (blk_lt gI)).trans gI, ?_⟩
  have z29 := Lib.hid (show (numS (s.x9)).size ≤ 21 from numS_size _ HN.out.2.2)
  simp only [Act.put, List.setIfInBounds_toArray, List.set_cons_zero, List.set_cons_succ]
  replace gI := (hbr.block _ (blk_lt gI)).trans gI
  replace kB := kB.trans (hbr.mono kB.size)
  clear hbr
  obtain ⟨T14_, hT14_⟩ : ∃ T : ByteArray, T = T13_ ++ (numS (s.x9)) := ⟨_, rfl⟩
  have z30 := Lib.hid (show T14_.size ≤ 116 by rw [hT14_]; exact size_app z28.out z29.out)
  refine take_ (i := 43) (N := some 92) (oi := _) (v := .string (T14_)) rfl rfl (by kernel_rfl) (by kernel_rfl) (by kernel_rfl) (fun _ _ _ h => h) (Or.inl ⟨by rfl, ?_⟩) gI ?_
  · intro w2 qI; rw [hT14_]; exact run_add_str rfl rfl rfl (add_ok z28.out z29.out (by decide))
  simp only [Act.put, List.setIfInBounds_toArray, List.set_cons_zero, List.set_cons_succ]
  have HT14_ := Lib.hid hT14_
  clear hT14_
  refine take_ (i := 44) (N := some 7) (oi := _) (v := .string (T14_)) rfl rfl (by kernel_rfl) (by kernel_rfl) (by kernel_rfl) (fun _ _ _ h => h) (Or.inl ⟨by rfl, ?_⟩) gI ?_
  · intro w2 qI; go_simp
  simp only [Act.put, List.setIfInBounds_toArray, List.set_cons_zero, List.set_cons_succ]
  refine wpAnyH_done (by kernel_rfl) ?_ _
  clear z0 z1 z2 z3 z4 z5 z6 z7 z8 z9 z10 z11 z12 z13 z14 z15 z16 z17 z18 z19 z20 z21 z22 z23 z24 z25 z26 z27 z28 z29 z30
  have hz : T14_ = rregs s := by
    unfold rregs
    rw [HT14_.out, HT13_.out, HT12_.out, HT11_.out, HT10_.out, HT9_.out, HT8_.out, HT7_.out, HT6_.out, HT5_.out, HT4_.out, HT3_.out, HT2_.out, HT1_.out, HT0_.out]
  have HZ_ := Lib.hid hz
  clear hz HT0_ HT1_ HT2_ HT3_ HT4_ HT5_ HT6_ HT7_ HT8_ HT9_ HT10_ HT11_ HT12_ HT13_ HT14_
  go_wp2_with fail
  have hfin : Shown w [rregs s] (.returned (.tuple #[.slice (some ⟨Wr8.heap.size, 0, none⟩) 1 1, .bool true])) (Wr8.alloc (.cells #[.string T14_] 9)) := by
    rw [← HZ_.out]
    exact ⟨_, rfl, Kd.R_of_own (enc := Value.string) (h1 := fun _ => rfl) (own_lit_of Wr8 w.heap.size 9 [T14_] kB.size (by simp)) (fun _ _ => trivial), kB.alloc kB.size _⟩
  go_ret2
  exact hfin
end Go.Proofs.YtfoijbcdbcehiaaDoor.L4
