import Derived.Test.YtfoijbcdbcehiaaDoorRefText
import Derived.Test.YtfoijbcdbcehiaaDoorParts
import Derived.KernelRfl
set_option linter.unusedVariables false
set_option linter.unusedSimpArgs false
namespace Go.Proofs.YtfoijbcdbcehiaaDoor.L4
open Go.RowKit Go.Proofs.YtfoijbcdbcehiaaDoorW.PrintWords

def rwA (n : Int) (s : Sv) : ByteArray := (⟨#[115, 116, 101, 112]⟩ : ByteArray) ++ (numS (n)) ++ (⟨#[32, 108, 105, 110, 101]⟩ : ByteArray) ++ (numS (s.x3)) ++ (⟨#[32, 112, 99]⟩ : ByteArray) ++ (numS (s.x16)) ++ (⟨#[32, 112, 104, 97, 115, 101]⟩ : ByteArray)
def rwB (s : Sv) (T5 : ByteArray) : ByteArray := (((T5 ++ (⟨#[32, 101, 114, 114, 111, 114]⟩ : ByteArray)) ++ (numS (s.x19))) ++ (⟨#[32, 97, 116]⟩ : ByteArray)) ++ (numS (s.x18))
/-- what the reference's Where tells -/
def refWhereS (n : Int) (s : Sv) : ByteArray :=
  if s.x15 = 0 then rwA n s ++ (⟨#[32, 98, 101, 103, 105, 110]⟩ : ByteArray) else if s.x15 = 1 then rwA n s ++ (⟨#[32, 98, 111, 100, 121]⟩ : ByteArray) else if s.x15 = 2 then rwA n s ++ (⟨#[32, 101, 110, 100, 105, 110, 103]⟩ : ByteArray)
  else if s.x15 = 3 then (if s.x19 = 0 then (rwA n s ++ (⟨#[32, 104, 97, 108, 116, 101, 100, 32, 101, 120, 105, 116]⟩ : ByteArray)) ++ numS s.x17 else rwB s ((rwA n s ++ (⟨#[32, 104, 97, 108, 116, 101, 100, 32, 101, 120, 105, 116]⟩ : ByteArray)) ++ numS s.x17))
  else rwA n s ++ numS s.x15
theorem rw0 (n : Int) (s : Sv) (h : s.x15 = 0) : refWhereS n s = rwA n s ++ (⟨#[32, 98, 101, 103, 105, 110]⟩ : ByteArray) := by unfold refWhereS; rw [if_pos h]
theorem rw1 (n : Int) (s : Sv) (h : s.x15 = 1) : refWhereS n s = rwA n s ++ (⟨#[32, 98, 111, 100, 121]⟩ : ByteArray) := by unfold refWhereS; rw [if_neg (by omega), if_pos h]
theorem rw2 (n : Int) (s : Sv) (h : s.x15 = 2) : refWhereS n s = rwA n s ++ (⟨#[32, 101, 110, 100, 105, 110, 103]⟩ : ByteArray) := by unfold refWhereS; rw [if_neg (by omega), if_neg (by omega), if_pos h]
theorem rw3 (n : Int) (s : Sv) (h : s.x15 = 3) (h1 : s.x19 = 0) : refWhereS n s = (rwA n s ++ (⟨#[32, 104, 97, 108, 116, 101, 100, 32, 101, 120, 105, 116]⟩ : ByteArray)) ++ numS s.x17 := by unfold refWhereS; rw [if_neg (by omega), if_neg (by omega), if_neg (by omega), if_pos h, if_pos h1]
theorem rw4 (n : Int) (s : Sv) (h : s.x15 = 3) (h1 : s.x19 ≠ 0) : refWhereS n s = rwB s ((rwA n s ++ (⟨#[32, 104, 97, 108, 116, 101, 100, 32, 101, 120, 105, 116]⟩ : ByteArray)) ++ numS s.x17) := by unfold refWhereS; rw [if_neg (by omega), if_neg (by omega), if_neg (by omega), if_pos h, if_neg h1]
theorem rw5 (n : Int) (s : Sv) (h0 : s.x15 ≠ 0) (h1 : s.x15 ≠ 1) (h2 : s.x15 ≠ 2) (h3 : s.x15 ≠ 3) : refWhereS n s = rwA n s ++ numS s.x15 := by unfold refWhereS; rw [if_neg h0, if_neg h1, if_neg h2, if_neg h3]

set_option maxRecDepth 100000 in
set_option maxHeartbeats 4000000 in
theorem refWhere_upto (n : Int) (s : Sv) (w : World) (hn : I64 n) (hs : s.Ok w) (R : Ending → World → Prop)
    (hK : ∀ W5 : World, Below w.heap.size w W5 → R (.returned (.string (refWhereS n s))) W5) :
    Calls Tryd.prog 7 #[.int .i64 n, s.v] w R := by
  have n3 := hs.n3
  have n15 := hs.n15
  have n16 := hs.n16
  have n17 := hs.n17
  have n18 := hs.n18
  have n19 := hs.n19
  have HI := InB.new s w
  have kB := (Below.refl w.heap.size w).alloc (Nat.le_refl _) (.cells s.cells 34)
  have kl : w.heap.size < (w.alloc (.cells s.cells 34)).heap.size := by simp
  have q3 : (w.alloc (.cells s.cells 34)).cell? ⟨w.heap.size, 3, none⟩ = some (.int .i64 s.x3) := HI.cell 3
  have q15 : (w.alloc (.cells s.cells 34)).cell? ⟨w.heap.size, 15, none⟩ = some (.int .i64 s.x15) := HI.cell 15
  have q16 : (w.alloc (.cells s.cells 34)).cell? ⟨w.heap.size, 16, none⟩ = some (.int .i64 s.x16) := HI.cell 16
  have q17 : (w.alloc (.cells s.cells 34)).cell? ⟨w.heap.size, 17, none⟩ = some (.int .i64 s.x17) := HI.cell 17
  have q18 : (w.alloc (.cells s.cells 34)).cell? ⟨w.heap.size, 18, none⟩ = some (.int .i64 s.x18) := HI.cell 18
  have q19 : (w.alloc (.cells s.cells 34)).cell? ⟨w.heap.size, 19, none⟩ = some (.int .i64 s.x19) := HI.cell 19
  have hK' : ∀ (t : ByteArray) (W5 : World), t = refWhereS n s → Below w.heap.size w W5 → R (.returned (.string t)) W5 := fun t W5 e h => e ▸ hK W5 h
  clear HI hK
  unfold I64 at *
  unfold Sv.v
  generalize s.cells = cs at *
  go_enter Tryd.func7, Tryd.ntmps7
  go_wp2_with fail
  generalize w.alloc (.cells cs 34) = w1 at *
  refine wp_region_held (S := fun w' => w'.cell? ⟨w.heap.size, 3, none⟩ = some (.int .i64 s.x3) ∧ w'.cell? ⟨w.heap.size, 15, none⟩ = some (.int .i64 s.x15) ∧ w'.cell? ⟨w.heap.size, 16, none⟩ = some (.int .i64 s.x16) ∧ w'.cell? ⟨w.heap.size, 17, none⟩ = some (.int .i64 s.x17) ∧ w'.cell? ⟨w.heap.size, 18, none⟩ = some (.int .i64 s.x18) ∧ w'.cell? ⟨w.heap.size, 19, none⟩ = some (.int .i64 s.x19)) (by kernel_rfl) ?_
  change wpAnyH _ _ _ _ _ _ _ _ w1.drew
  replace q3 : w1.drew.cell? ⟨w.heap.size, 3, none⟩ = some (.int .i64 s.x3) := q3
  replace q15 : w1.drew.cell? ⟨w.heap.size, 15, none⟩ = some (.int .i64 s.x15) := q15
  replace q16 : w1.drew.cell? ⟨w.heap.size, 16, none⟩ = some (.int .i64 s.x16) := q16
  replace q17 : w1.drew.cell? ⟨w.heap.size, 17, none⟩ = some (.int .i64 s.x17) := q17
  replace q18 : w1.drew.cell? ⟨w.heap.size, 18, none⟩ = some (.int .i64 s.x18) := q18
  replace q19 : w1.drew.cell? ⟨w.heap.size, 19, none⟩ = some (.int .i64 s.x19) := q19
  replace kB := below_drew kB
  replace kl : w.heap.size < w1.drew.heap.size := kl
  generalize w1.drew = Wq at *
  have hS : (fun w' : World => w'.cell? ⟨w.heap.size, 3, none⟩ = some (.int .i64 s.x3) ∧ w'.cell? ⟨w.heap.size, 15, none⟩ = some (.int .i64 s.x15) ∧ w'.cell? ⟨w.heap.size, 16, none⟩ = some (.int .i64 s.x16) ∧ w'.cell? ⟨w.heap.size, 17, none⟩ = some (.int .i64 s.x17) ∧ w'.cell? ⟨w.heap.size, 18, none⟩ = some (.int .i64 s.x18) ∧ w'.cell? ⟨w.heap.size, 19, none⟩ = some (.int .i64 s.x19)) Wq := ⟨q3, q15, q16, q17, q18, q19⟩
  refine take_ (i := 0) (N := some 6) (oi := _) (v := .int .i64 (n)) rfl rfl (by kernel_rfl) (by kernel_rfl) (by kernel_rfl) (fun _ _ _ h => h) (Or.inl ⟨by rfl, ?_⟩) hS ?_
  · intro w hSw; go_simp
  simp only [Act.put, List.setIfInBounds_toArray, List.set_cons_zero, List.set_cons_succ]
  refine take_ (i := 4) (N := some 10) (oi := _) (v := .pointer (some ⟨w.heap.size, 0, none⟩)) rfl rfl (by kernel_rfl) (by kernel_rfl) (by kernel_rfl) (fun _ _ _ h => h) (Or.inl ⟨by rfl, ?_⟩) hS ?_
  · intro w hSw; go_simp
  simp only [Act.put, List.setIfInBounds_toArray, List.set_cons_zero, List.set_cons_succ]
  refine take_ (i := 5) (N := some 11) (oi := _) (v := .pointer (some ⟨w.heap.size, 3, none⟩)) rfl rfl (by kernel_rfl) (by kernel_rfl) (by kernel_rfl) (fun _ _ _ h => h) (Or.inl ⟨by rfl, ?_⟩) hS ?_
  · intro w hSw; go_simp
  simp only [Act.put, List.setIfInBounds_toArray, List.set_cons_zero, List.set_cons_succ]
  refine take_ (i := 6) (N := some 12) (oi := _) (v := .int .i64 (s.x3)) rfl rfl (by kernel_rfl) (by kernel_rfl) (by kernel_rfl) (fun _ _ _ h => h) (Or.inl ⟨by rfl, ?_⟩) hS ?_
  · intro w hSw; obtain ⟨q3, q15, q16, q17, q18, q19⟩ := hSw; go_simp
  simp only [Act.put, List.setIfInBounds_toArray, List.set_cons_zero, List.set_cons_succ]
  refine take_ (i := 10) (N := some 16) (oi := _) (v := .pointer (some ⟨w.heap.size, 16, none⟩)) rfl rfl (by kernel_rfl) (by kernel_rfl) (by kernel_rfl) (fun _ _ _ h => h) (Or.inl ⟨by rfl, ?_⟩) hS ?_
  · intro w hSw; go_simp
  simp only [Act.put, List.setIfInBounds_toArray, List.set_cons_zero, List.set_cons_succ]
  refine take_ (i := 11) (N := some 17) (oi := _) (v := .int .i64 (s.x16)) rfl rfl (by kernel_rfl) (by kernel_rfl) (by kernel_rfl) (fun _ _ _ h => h) (Or.inl ⟨by rfl, ?_⟩) hS ?_
  · intro w hSw; obtain ⟨q3, q15, q16, q17, q18, q19⟩ := hSw; go_simp
  simp only [Act.put, List.setIfInBounds_toArray, List.set_cons_zero, List.set_cons_succ]
  refine wpAnyH_one (i := 1) (by kernel_rfl) ?_
  refine wpOp_call (f := 16) (args := #[.int .i64 (n)]) (w1 := Wq) rfl rfl (by go_simp) ?_
  refine (num_any (n) (by assumption) _).mono ?_
  rintro e Wr1 ⟨rfl, hbr⟩
  refine ⟨_, rfl, ⟨carry hbr kl q3, carry hbr kl q15, carry hbr kl q16, carry hbr kl q17, carry hbr kl q18, carry hbr kl q19⟩, ?_⟩
  have z0 : (numS (n)).size ≤ 21 := numS_size _ (by assumption)
  simp only [Act.put, List.setIfInBounds_toArray, List.set_cons_zero, List.set_cons_succ]
  replace kB := kB.trans (hbr.mono kB.size)
  replace q3 := carry hbr kl q3
  replace q15 := carry hbr kl q15
  replace q16 := carry hbr kl q16
  replace q17 := carry hbr kl q17
  replace q18 := carry hbr kl q18
  replace q19 := carry hbr kl q19
  replace kl := Nat.lt_of_lt_of_le kl hbr.size
  clear hbr
  have z1 : ((⟨#[115, 116, 101, 112]⟩ : ByteArray)).size ≤ 4 := Nat.le_of_eq rfl
  have z2 : ((⟨#[115, 116, 101, 112]⟩ : ByteArray) ++ (numS (n))).size ≤ 25 := by rw [ByteArray.size_append]; omega
  refine take_ (i := 2) (N := some 8) (oi := _) (v := .string ((⟨#[115, 116, 101, 112]⟩ : ByteArray) ++ (numS (n)))) rfl rfl (by kernel_rfl) (by kernel_rfl) (by kernel_rfl) (fun _ _ _ h => h) (Or.inl ⟨by rfl, ?_⟩) ⟨q3, q15, q16, q17, q18, q19⟩ ?_
  · intro w hSw; exact run_add_str rfl rfl rfl (by omega)
  simp only [Act.put, List.setIfInBounds_toArray, List.set_cons_zero, List.set_cons_succ]
  have z3 : ((⟨#[32, 108, 105, 110, 101]⟩ : ByteArray)).size ≤ 5 := Nat.le_of_eq rfl
  have z4 : ((⟨#[115, 116, 101, 112]⟩ : ByteArray) ++ (numS (n)) ++ (⟨#[32, 108, 105, 110, 101]⟩ : ByteArray)).size ≤ 30 := by rw [ByteArray.size_append]; omega
  refine take_ (i := 3) (N := some 9) (oi := _) (v := .string ((⟨#[115, 116, 101, 112]⟩ : ByteArray) ++ (numS (n)) ++ (⟨#[32, 108, 105, 110, 101]⟩ : ByteArray))) rfl rfl (by kernel_rfl) (by kernel_rfl) (by kernel_rfl) (fun _ _ _ h => h) (Or.inl ⟨by rfl, ?_⟩) ⟨q3, q15, q16, q17, q18, q19⟩ ?_
  · intro w hSw; exact run_add_str rfl rfl rfl (by omega)
  simp only [Act.put, List.setIfInBounds_toArray, List.set_cons_zero, List.set_cons_succ]
  refine wpAnyH_one (i := 7) (by kernel_rfl) ?_
  refine wpOp_call (f := 16) (args := #[.int .i64 (s.x3)]) (w1 := Wr1) rfl rfl (by go_simp) ?_
  refine (num_any (s.x3) (by assumption) _).mono ?_
  rintro e Wr2 ⟨rfl, hbr⟩
  refine ⟨_, rfl, ⟨carry hbr kl q3, carry hbr kl q15, carry hbr kl q16, carry hbr kl q17, carry hbr kl q18, carry hbr kl q19⟩, ?_⟩
  have z5 : (numS (s.x3)).size ≤ 21 := numS_size _ (by assumption)
  simp only [Act.put, List.setIfInBounds_toArray, List.set_cons_zero, List.set_cons_succ]
  replace kB := kB.trans (hbr.mono kB.size)
  replace q3 := carry hbr kl q3
  replace q15 := carry hbr kl q15
  replace q16 := carry hbr kl q16
  replace q17 := carry hbr kl q17
  replace q18 := carry hbr kl q18
  replace q19 := carry hbr kl q19
  replace kl := Nat.lt_of_lt_of_le kl hbr.size
  clear hbr
  have z6 : ((⟨#[115, 116, 101, 112]⟩ : ByteArray) ++ (numS (n)) ++ (⟨#[32, 108, 105, 110, 101]⟩ : ByteArray) ++ (numS (s.x3))).size ≤ 51 := by rw [ByteArray.size_append]; omega
  refine take_ (i := 8) (N := some 14) (oi := _) (v := .string ((⟨#[115, 116, 101, 112]⟩ : ByteArray) ++ (numS (n)) ++ (⟨#[32, 108, 105, 110, 101]⟩ : ByteArray) ++ (numS (s.x3)))) rfl rfl (by kernel_rfl) (by kernel_rfl) (by kernel_rfl) (fun _ _ _ h => h) (Or.inl ⟨by rfl, ?_⟩) ⟨q3, q15, q16, q17, q18, q19⟩ ?_
  · intro w hSw; exact run_add_str rfl rfl rfl (by omega)
  simp only [Act.put, List.setIfInBounds_toArray, List.set_cons_zero, List.set_cons_succ]
  have z7 : ((⟨#[32, 112, 99]⟩ : ByteArray)).size ≤ 3 := Nat.le_of_eq rfl
  have z8 : ((⟨#[115, 116, 101, 112]⟩ : ByteArray) ++ (numS (n)) ++ (⟨#[32, 108, 105, 110, 101]⟩ : ByteArray) ++ (numS (s.x3)) ++ (⟨#[32, 112, 99]⟩ : ByteArray)).size ≤ 54 := by rw [ByteArray.size_append]; omega
  refine take_ (i := 9) (N := some 15) (oi := _) (v := .string ((⟨#[115, 116, 101, 112]⟩ : ByteArray) ++ (numS (n)) ++ (⟨#[32, 108, 105, 110, 101]⟩ : ByteArray) ++ (numS (s.x3)) ++ (⟨#[32, 112, 99]⟩ : ByteArray))) rfl rfl (by kernel_rfl) (by kernel_rfl) (by kernel_rfl) (fun _ _ _ h => h) (Or.inl ⟨by rfl, ?_⟩) ⟨q3, q15, q16, q17, q18, q19⟩ ?_
  · intro w hSw; exact run_add_str rfl rfl rfl (by omega)
  simp only [Act.put, List.setIfInBounds_toArray, List.set_cons_zero, List.set_cons_succ]
  refine wpAnyH_one (i := 12) (by kernel_rfl) ?_
  refine wpOp_call (f := 16) (args := #[.int .i64 (s.x16)]) (w1 := Wr2) rfl rfl (by go_simp) ?_
  refine (num_any (s.x16) (by assumption) _).mono ?_
  rintro e Wr3 ⟨rfl, hbr⟩
  refine ⟨_, rfl, ⟨carry hbr kl q3, carry hbr kl q15, carry hbr kl q16, carry hbr kl q17, carry hbr kl q18, carry hbr kl q19⟩, ?_⟩
  have z9 : (numS (s.x16)).size ≤ 21 := numS_size _ (by assumption)
  simp only [Act.put, List.setIfInBounds_toArray, List.set_cons_zero, List.set_cons_succ]
  replace kB := kB.trans (hbr.mono kB.size)
  replace q3 := carry hbr kl q3
  replace q15 := carry hbr kl q15
  replace q16 := carry hbr kl q16
  replace q17 := carry hbr kl q17
  replace q18 := carry hbr kl q18
  replace q19 := carry hbr kl q19
  replace kl := Nat.lt_of_lt_of_le kl hbr.size
  clear hbr
  have z10 : ((⟨#[115, 116, 101, 112]⟩ : ByteArray) ++ (numS (n)) ++ (⟨#[32, 108, 105, 110, 101]⟩ : ByteArray) ++ (numS (s.x3)) ++ (⟨#[32, 112, 99]⟩ : ByteArray) ++ (numS (s.x16))).size ≤ 75 := by rw [ByteArray.size_append]; omega
  refine take_ (i := 13) (N := some 19) (oi := _) (v := .string ((⟨#[115, 116, 101, 112]⟩ : ByteArray) ++ (numS (n)) ++ (⟨#[32, 108, 105, 110, 101]⟩ : ByteArray) ++ (numS (s.x3)) ++ (⟨#[32, 112, 99]⟩ : ByteArray) ++ (numS (s.x16)))) rfl rfl (by kernel_rfl) (by kernel_rfl) (by kernel_rfl) (fun _ _ _ h => h) (Or.inl ⟨by rfl, ?_⟩) ⟨q3, q15, q16, q17, q18, q19⟩ ?_
  · intro w hSw; exact run_add_str rfl rfl rfl (by omega)
  simp only [Act.put, List.setIfInBounds_toArray, List.set_cons_zero, List.set_cons_succ]
  have z11 : ((⟨#[32, 112, 104, 97, 115, 101]⟩ : ByteArray)).size ≤ 6 := Nat.le_of_eq rfl
  have z12 : ((⟨#[115, 116, 101, 112]⟩ : ByteArray) ++ (numS (n)) ++ (⟨#[32, 108, 105, 110, 101]⟩ : ByteArray) ++ (numS (s.x3)) ++ (⟨#[32, 112, 99]⟩ : ByteArray) ++ (numS (s.x16)) ++ (⟨#[32, 112, 104, 97, 115, 101]⟩ : ByteArray)).size ≤ 81 := by rw [ByteArray.size_append]; omega
  refine take_ (i := 14) (N := some 20) (oi := _) (v := .string ((⟨#[115, 116, 101, 112]⟩ : ByteArray) ++ (numS (n)) ++ (⟨#[32, 108, 105, 110, 101]⟩ : ByteArray) ++ (numS (s.x3)) ++ (⟨#[32, 112, 99]⟩ : ByteArray) ++ (numS (s.x16)) ++ (⟨#[32, 112, 104, 97, 115, 101]⟩ : ByteArray))) rfl rfl (by kernel_rfl) (by kernel_rfl) (by kernel_rfl) (fun _ _ _ h => h) (Or.inl ⟨by rfl, ?_⟩) ⟨q3, q15, q16, q17, q18, q19⟩ ?_
  · intro w hSw; exact run_add_str rfl rfl rfl (by omega)
  simp only [Act.put, List.setIfInBounds_toArray, List.set_cons_zero, List.set_cons_succ]
  refine take_ (i := 15) (N := some 5) (oi := _) (v := .string ((⟨#[115, 116, 101, 112]⟩ : ByteArray) ++ (numS (n)) ++ (⟨#[32, 108, 105, 110, 101]⟩ : ByteArray) ++ (numS (s.x3)) ++ (⟨#[32, 112, 99]⟩ : ByteArray) ++ (numS (s.x16)) ++ (⟨#[32, 112, 104, 97, 115, 101]⟩ : ByteArray))) rfl rfl (by kernel_rfl) (by kernel_rfl) (by kernel_rfl) (fun _ _ _ h => h) (Or.inl ⟨by rfl, ?_⟩) ⟨q3, q15, q16, q17, q18, q19⟩ ?_
  · intro w hSw; go_simp
  simp only [Act.put, List.setIfInBounds_toArray, List.set_cons_zero, List.set_cons_succ]
  refine wpAnyH_done (by kernel_rfl) ?_ _
  clear hS
  have hT5 := z12
  clear z0 z1 z2 z3 z4 z5 z6 z7 z8 z9 z10 z11 z12
  generalize hT : (⟨#[115, 116, 101, 112]⟩ : ByteArray) ++ (numS (n)) ++ (⟨#[32, 108, 105, 110, 101]⟩ : ByteArray) ++ (numS (s.x3)) ++ (⟨#[32, 112, 99]⟩ : ByteArray) ++ (numS (s.x16)) ++ (⟨#[32, 112, 104, 97, 115, 101]⟩ : ByteArray) = T5 at hT5 ⊢
  have HT := Lib.hid hT
  clear hT
  go_wp2_with (go_at_call 16; refine (num_any _ (by assumption) _).mono ?_; rintro e W5 ⟨rfl, hb⟩; replace q18 := carry hb kl q18; replace q19 := carry hb kl q19; replace kB := kB.trans (hb.mono kB.size); replace kl := Nat.lt_of_lt_of_le kl hb.size; have hz1 := numS_size s.x17 (by assumption); have hz2 := numS_size s.x15 (by assumption); clear hb)
  · rename_i h; exact hK' (T5 ++ (⟨#[32, 98, 101, 103, 105, 110]⟩ : ByteArray)) _ (by rw [← HT.out]; exact (rw0 n s (by simpa using h)).symm) kB
  · rename_i h0 h; exact hK' (T5 ++ (⟨#[32, 98, 111, 100, 121]⟩ : ByteArray)) _ (by rw [← HT.out]; exact (rw1 n s (by simpa using h)).symm) kB
  · rename_i h0 h1 h; exact hK' (T5 ++ (⟨#[32, 101, 110, 100, 105, 110, 103]⟩ : ByteArray)) _ (by rw [← HT.out]; exact (rw2 n s (by simpa using h)).symm) kB
  · rename_i h0 h1 h2 h3 K_ hK_ h
    have hU : ((T5 ++ (⟨#[32, 104, 97, 108, 116, 101, 100, 32, 101, 120, 105, 116]⟩ : ByteArray)) ++ numS s.x17).size ≤ 200 := by rw [ByteArray.size_append, ByteArray.size_append, show ((⟨#[32, 104, 97, 108, 116, 101, 100, 32, 101, 120, 105, 116]⟩ : ByteArray)).size = 12 from rfl]; omega
    generalize hUe : (T5 ++ (⟨#[32, 104, 97, 108, 116, 101, 100, 32, 101, 120, 105, 116]⟩ : ByteArray)) ++ numS s.x17 = U at hU ⊢
    have HU := Lib.hid hUe
    clear hUe hT5
    refine wp_region_held (S := fun w' => w'.cell? ⟨w.heap.size, 18, none⟩ = some (.int .i64 s.x18) ∧ w'.cell? ⟨w.heap.size, 19, none⟩ = some (.int .i64 s.x19)) (by kernel_rfl) ?_
    change wpAnyH _ _ _ _ _ _ _ _ W5.drew
    replace q18 : W5.drew.cell? ⟨w.heap.size, 18, none⟩ = some (.int .i64 s.x18) := q18
    replace q19 : W5.drew.cell? ⟨w.heap.size, 19, none⟩ = some (.int .i64 s.x19) := q19
    replace kB := below_drew kB
    replace kl : w.heap.size < W5.drew.heap.size := kl
    generalize W5.drew = Wq at *
    have hS : (fun w' : World => w'.cell? ⟨w.heap.size, 18, none⟩ = some (.int .i64 s.x18) ∧ w'.cell? ⟨w.heap.size, 19, none⟩ = some (.int .i64 s.x19)) Wq := ⟨q18, q19⟩
    refine take_ (i := 0) (N := some 46) (oi := _) (v := .string (U)) rfl rfl (by kernel_rfl) (by kernel_rfl) (by kernel_rfl) (fun _ _ _ h => h) (Or.inl ⟨by rfl, ?_⟩) hS ?_
    · intro w hSw; go_simp
    simp only [Act.put, List.setIfInBounds_toArray, List.set_cons_zero, List.set_cons_succ]
    have z1 : ((⟨#[32, 101, 114, 114, 111, 114]⟩ : ByteArray)).size ≤ 6 := Nat.le_of_eq rfl
    have z2 : (U ++ (⟨#[32, 101, 114, 114, 111, 114]⟩ : ByteArray)).size ≤ 206 := by rw [ByteArray.size_append]; omega
    refine take_ (i := 1) (N := some 47) (oi := _) (v := .string (U ++ (⟨#[32, 101, 114, 114, 111, 114]⟩ : ByteArray))) rfl rfl (by kernel_rfl) (by kernel_rfl) (by kernel_rfl) (fun _ _ _ h => h) (Or.inl ⟨by rfl, ?_⟩) hS ?_
    · intro w hSw; exact run_add_str rfl rfl rfl (by omega)
    simp only [Act.put, List.setIfInBounds_toArray, List.set_cons_zero, List.set_cons_succ]
    refine take_ (i := 2) (N := some 48) (oi := _) (v := .pointer (some ⟨w.heap.size, 19, none⟩)) rfl rfl (by kernel_rfl) (by kernel_rfl) (by kernel_rfl) (fun _ _ _ h => h) (Or.inl ⟨by rfl, ?_⟩) hS ?_
    · intro w hSw; go_simp
    simp only [Act.put, List.setIfInBounds_toArray, List.set_cons_zero, List.set_cons_succ]
    refine take_ (i := 3) (N := some 49) (oi := _) (v := .int .i64 (s.x19)) rfl rfl (by kernel_rfl) (by kernel_rfl) (by kernel_rfl) (fun _ _ _ h => h) (Or.inl ⟨by rfl, ?_⟩) hS ?_
    · intro w hSw; obtain ⟨q18, q19⟩ := hSw; go_simp
    simp only [Act.put, List.setIfInBounds_toArray, List.set_cons_zero, List.set_cons_succ]
    refine take_ (i := 7) (N := some 53) (oi := _) (v := .pointer (some ⟨w.heap.size, 18, none⟩)) rfl rfl (by kernel_rfl) (by kernel_rfl) (by kernel_rfl) (fun _ _ _ h => h) (Or.inl ⟨by rfl, ?_⟩) hS ?_
    · intro w hSw; go_simp
    simp only [Act.put, List.setIfInBounds_toArray, List.set_cons_zero, List.set_cons_succ]
    refine take_ (i := 8) (N := some 54) (oi := _) (v := .int .i64 (s.x18)) rfl rfl (by kernel_rfl) (by kernel_rfl) (by kernel_rfl) (fun _ _ _ h => h) (Or.inl ⟨by rfl, ?_⟩) hS ?_
    · intro w hSw; obtain ⟨q18, q19⟩ := hSw; go_simp
    simp only [Act.put, List.setIfInBounds_toArray, List.set_cons_zero, List.set_cons_succ]
    refine wpAnyH_one (i := 4) (by kernel_rfl) ?_
    refine wpOp_call (f := 16) (args := #[.int .i64 (s.x19)]) (w1 := Wq) rfl rfl (by go_simp) ?_
    refine (num_any (s.x19) (by assumption) _).mono ?_
    rintro e Wr1 ⟨rfl, hbr⟩
    refine ⟨_, rfl, ⟨carry hbr kl q18, carry hbr kl q19⟩, ?_⟩
    have z3 : (numS (s.x19)).size ≤ 21 := numS_size _ (by assumption)
    simp only [Act.put, List.setIfInBounds_toArray, List.set_cons_zero, List.set_cons_succ]
    replace kB := kB.trans (hbr.mono kB.size)
    replace q18 := carry hbr kl q18
    replace q19 := carry hbr kl q19
    replace kl := Nat.lt_of_lt_of_le kl hbr.size
    clear hbr
    have z4 : ((U ++ (⟨#[32, 101, 114, 114, 111, 114]⟩ : ByteArray)) ++ (numS (s.x19))).size ≤ 227 := by rw [ByteArray.size_append]; omega
    refine take_ (i := 5) (N := some 51) (oi := _) (v := .string ((U ++ (⟨#[32, 101, 114, 114, 111, 114]⟩ : ByteArray)) ++ (numS (s.x19)))) rfl rfl (by kernel_rfl) (by kernel_rfl) (by kernel_rfl) (fun _ _ _ h => h) (Or.inl ⟨by rfl, ?_⟩) ⟨q18, q19⟩ ?_
    · intro w hSw; exact run_add_str rfl rfl rfl (by omega)
    simp only [Act.put, List.setIfInBounds_toArray, List.set_cons_zero, List.set_cons_succ]
    have z5 : ((⟨#[32, 97, 116]⟩ : ByteArray)).size ≤ 3 := Nat.le_of_eq rfl
    have z6 : (((U ++ (⟨#[32, 101, 114, 114, 111, 114]⟩ : ByteArray)) ++ (numS (s.x19))) ++ (⟨#[32, 97, 116]⟩ : ByteArray)).size ≤ 230 := by rw [ByteArray.size_append]; omega
    refine take_ (i := 6) (N := some 52) (oi := _) (v := .string (((U ++ (⟨#[32, 101, 114, 114, 111, 114]⟩ : ByteArray)) ++ (numS (s.x19))) ++ (⟨#[32, 97, 116]⟩ : ByteArray))) rfl rfl (by kernel_rfl) (by kernel_rfl) (by kernel_rfl) (fun _ _ _ h => h) (Or.inl ⟨by rfl, ?_⟩) ⟨q18, q19⟩ ?_
    · intro w hSw; exact run_add_str rfl rfl rfl (by omega)
    simp only [Act.put, List.setIfInBounds_toArray, List.set_cons_zero, List.set_cons_succ]
    refine wpAnyH_one (i := 9) (by kernel_rfl) ?_
    refine wpOp_call (f := 16) (args := #[.int .i64 (s.x18)]) (w1 := Wr1) rfl rfl (by go_simp) ?_
    refine (num_any (s.x18) (by assumption) _).mono ?_
    rintro e Wr2 ⟨rfl, hbr⟩
    refine ⟨_, rfl, ⟨carry hbr kl q18, carry hbr kl q19⟩, ?_⟩
    have z7 : (numS (s.x18)).size ≤ 21 := numS_size _ (by assumption)
    simp only [Act.put, List.setIfInBounds_toArray, List.set_cons_zero, List.set_cons_succ]
    replace kB := kB.trans (hbr.mono kB.size)
    replace q18 := carry hbr kl q18
    replace q19 := carry hbr kl q19
    replace kl := Nat.lt_of_lt_of_le kl hbr.size
    clear hbr
    have z8 : ((((U ++ (⟨#[32, 101, 114, 114, 111, 114]⟩ : ByteArray)) ++ (numS (s.x19))) ++ (⟨#[32, 97, 116]⟩ : ByteArray)) ++ (numS (s.x18))).size ≤ 251 := by rw [ByteArray.size_append]; omega
    refine take_ (i := 10) (N := some 56) (oi := _) (v := .string ((((U ++ (⟨#[32, 101, 114, 114, 111, 114]⟩ : ByteArray)) ++ (numS (s.x19))) ++ (⟨#[32, 97, 116]⟩ : ByteArray)) ++ (numS (s.x18)))) rfl rfl (by kernel_rfl) (by kernel_rfl) (by kernel_rfl) (fun _ _ _ h => h) (Or.inl ⟨by rfl, ?_⟩) ⟨q18, q19⟩ ?_
    · intro w hSw; exact run_add_str rfl rfl rfl (by omega)
    simp only [Act.put, List.setIfInBounds_toArray, List.set_cons_zero, List.set_cons_succ]
    refine take_ (i := 11) (N := some 5) (oi := _) (v := .string ((((U ++ (⟨#[32, 101, 114, 114, 111, 114]⟩ : ByteArray)) ++ (numS (s.x19))) ++ (⟨#[32, 97, 116]⟩ : ByteArray)) ++ (numS (s.x18)))) rfl rfl (by kernel_rfl) (by kernel_rfl) (by kernel_rfl) (fun _ _ _ h => h) (Or.inl ⟨by rfl, ?_⟩) ⟨q18, q19⟩ ?_
    · intro w hSw; go_simp
    simp only [Act.put, List.setIfInBounds_toArray, List.set_cons_zero, List.set_cons_succ]
    refine wpAnyH_done (by kernel_rfl) ?_ _
    clear hS
    go_wp2_with fail
    exact hK' (rwB s U) _ (by rw [← HU.out, ← HT.out]; exact (rw4 n s (by simpa using h3) (by simpa using h)).symm) kB
  · rename_i h0 h1 h2 h3 h; exact hK' ((T5 ++ (⟨#[32, 104, 97, 108, 116, 101, 100, 32, 101, 120, 105, 116]⟩ : ByteArray)) ++ numS s.x17) _ (by rw [← HT.out]; exact (rw3 n s (by simpa using h3) (by simpa using h)).symm) kB
  · rename_i h0 h1 h2 h; exact hK' (T5 ++ numS s.x15) _ (by rw [← HT.out]; exact (rw5 n s (by simpa using h0) (by simpa using h1) (by simpa using h2) (by simpa using h)).symm) kB
end Go.Proofs.YtfoijbcdbcehiaaDoor.L4
