import Derived.Test.YthkkfkiiopfkjaaCText
import Derived.Test.YthkkfkiiopfkjaaCallN
import Derived.Laws.EntriesVeiled
set_option linter.unusedVariables false
set_option linter.unusedSimpArgs false
namespace Go.Proofs.Ythkkfkiiopfkjaa.L4
open Go.RowKit Go.Proofs.YthkkfkiiopfkjaaW.PrintWords Go.Proofs.YthkkfkiiopfkjaaW.PrintLast

theorem op_alloc {P : Program} {ops : Array Oper} {Q : Exit → Act → World → Prop} {i : Nat} {o : Oper} {K : Act → World → Prop} {a : Act} {w w1 : World} {v : Value} {N : Option Tmp} (ho : ops[i]? = some o) (hN : o.dst = N) (hg : o.guard = none) (hrun : (execOp a.eval o).run P w = .ok (.value v) w1) (h : K (a.put N v) w1) : wpOp P ops Q i K a w := wpOp_okN ho hN hg hrun h

set_option maxRecDepth 100000 in
set_option maxHeartbeats 8000000 in
theorem part_num (G : Nat) (s : ByteArray) (i p n : Int) (q : ByteArray) (d : Int) (w : World) (h : PS G s i 1 p n q d w) (g : Nat) (hz : q.size ≤ 1000) (hnot : (q.toList == ([110, 111, 116] : List UInt8)) = false) (hq : numF q.data.toList = some (fnV g)) (hq1 : flgF q.data.toList = none) (hq2 : txtF q.data.toList = none)
    {i1 k1 p1 n1 : Int} {q1 : ByteArray} {PE : World → Prop} {R : World → Value → Prop} (h1 : NextTo G s i d i1 k1 p1 n1 q1)
    (hc : ∀ W, PS G s i1 k1 p1 n1 q1 d W → Calls Try.prog 51 #[ptr G, fnV g] W fun e w' => ∃ v, e = .returned v ∧ R w' v ∧ PE w' ∧ Kp G W w') :
    Calls Try.prog 30 #[ptr G] w fun e w' => ∃ v, e = .returned v ∧ R w' v ∧ PE w' ∧ Kp G w w' := by
  have c2 := h.c2
  have c3 := h.c3
  have c4 := h.c4
  have c5 := h.c5
  have hlt := h.lt
  go_enter Try.func30, Try.ntmps30
  go_wp2_with fail
  have P1 := h.alloc (.cells #[.int .i64 1, .int .i64 p, .int .i64 n, .string q] 50)
  have K1 := (Kp.refl G w).alloc (.cells #[.int .i64 1, .int .i64 p, .int .i64 n, .string q] 50)
  have X1 := heap_alloc_new w (.cells #[.int .i64 1, .int .i64 p, .int .i64 n, .string q] 50)
  clear c2 c3 c4 c5 h
  generalize w.alloc (.cells #[.int .i64 1, .int .i64 p, .int .i64 n, .string q] 50) = w1 at *
  generalize hX : w.heap.size = X at *
  refine wp_region_held (S := fun w' => w'.cell? ⟨X, 3, none⟩ = some (.string q)) (by kernel_rfl) ?_
  change wpAnyH _ _ _ _ _ _ _ _ w1.drew
  replace P1 := P1.drew
  replace K1 := K1.drew
  replace X1 := blk_drew X1
  generalize w1.drew = w2 at *
  have hS : (fun w' : World => w'.cell? ⟨X, 3, none⟩ = some (.string q)) w2 := blk_cell X1 3
  refine take_ (i := 1) (N := some 82) (oi := _) (v := .pointer (some ⟨X, 3, none⟩)) rfl rfl (by kernel_rfl) (by kernel_rfl) (by kernel_rfl) (fun _ _ _ h => h) (Or.inl ⟨by rfl, fun w hSw => by go_simp⟩) hS ?_
  simp only [Act.put, List.setIfInBounds_toArray, List.set_cons_zero, List.set_cons_succ]
  refine take_ (i := 2) (N := some 83) (oi := _) (v := .string q) rfl rfl (by kernel_rfl) (by kernel_rfl) (by kernel_rfl) (fun _ _ _ h => h) (Or.inl ⟨by rfl, fun w hSw => by go_simp⟩) hS ?_
  simp only [Act.put, List.setIfInBounds_toArray, List.set_cons_zero, List.set_cons_succ]
  refine wpAnyH_all (rs := [0, 7]) (by kernel_rfl) (by simp) ?_
  intro i0 hi0
  simp only [List.mem_cons, List.not_mem_nil, or_false] at hi0
  rcases hi0 with rfl | rfl
  refine wpOp_callN (N := some 81) (f := 25) (args := #[]) (w1 := w2) rfl rfl rfl (by go_simp) ?_
  refine (flags_any _).mono ?_
  rintro e w3 ⟨m, nn, rfl, hm, hM, hb⟩
  replace P1 := P1.below hb
  replace K1 := K1.trans (Kp.of_below hb)
  replace X1 := blk_below X1 hb
  refine ⟨_, rfl, blk_cell X1 3, ?_⟩
  replace hS : (fun w' : World => w'.cell? ⟨X, 3, none⟩ = some (.string q)) w3 := blk_cell X1 3
  simp only [Act.put, List.setIfInBounds_toArray, List.set_cons_zero, List.set_cons_succ]
  have hl := flags_look hM q (by omega)
  clear hm hb
  simp only [hq1] at hl
  refine wpAnyH_all (rs := [3, 7]) (by kernel_rfl) (by simp) ?_
  intro i0 hi0
  simp only [List.mem_cons, List.not_mem_nil, or_false] at hi0
  rcases hi0 with rfl | rfl
  refine wpOp_okN (N := some 84) (v := .tuple #[.nilFunc, .bool false]) (w1 := w3) rfl rfl rfl (by go_simp) ⟨hS, ?_⟩
  simp only [Act.put, List.setIfInBounds_toArray, List.set_cons_zero, List.set_cons_succ]
  clear hl
  refine take_ (i := 4) (N := some 80) (oi := _) (v := .tuple #[.nilFunc, .bool false]) rfl rfl (by kernel_rfl) (by kernel_rfl) (by kernel_rfl) (fun _ _ _ h => h) (Or.inl ⟨by rfl, fun w hSw => by go_simp⟩) hS ?_
  simp only [Act.put, List.setIfInBounds_toArray, List.set_cons_zero, List.set_cons_succ]
  refine take_ (i := 5) (N := some 85) (oi := _) (v := .nilFunc) rfl rfl (by kernel_rfl) (by kernel_rfl) (by kernel_rfl) (fun _ _ _ h => h) (Or.inl ⟨by rfl, fun w hSw => by go_simp⟩) hS ?_
  simp only [Act.put, List.setIfInBounds_toArray, List.set_cons_zero, List.set_cons_succ]
  refine take_ (i := 6) (N := some 86) (oi := _) (v := .bool false) rfl rfl (by kernel_rfl) (by kernel_rfl) (by kernel_rfl) (fun _ _ _ h => h) (Or.inl ⟨by rfl, fun w hSw => by go_simp⟩) hS ?_
  simp only [Act.put, List.setIfInBounds_toArray, List.set_cons_zero, List.set_cons_succ]
  refine wpAnyH_one (i := 7) (by kernel_rfl) ?_
  refine wpOp_okN (N := some 6) (v := .pointer (some ⟨w3.heap.size, 0, none⟩)) (w1 := w3.alloc (.cells #[.nilFunc] 76)) rfl rfl rfl (by go_simp; try rfl) ⟨blk_cell (blk_alloc X1 _) 3, ?_⟩
  simp only [Act.put, List.setIfInBounds_toArray, List.set_cons_zero, List.set_cons_succ]
  have Z1 := Cell1.new w3 76 .nilFunc
  have gz : w.heap.size ≤ w3.heap.size := K1.size
  have gX : X < w3.heap.size := blk_lt X1
  replace P1 := P1.alloc (.cells #[.nilFunc] 76)
  replace K1 := K1.alloc (.cells #[.nilFunc] 76)
  replace X1 := blk_alloc X1 (.cells #[.nilFunc] 76)
  replace hS : (fun w' : World => w'.cell? ⟨X, 3, none⟩ = some (.string q)) (w3.alloc (.cells #[.nilFunc] 76)) := blk_cell X1 3
  generalize w3.heap.size = b6 at *
  generalize w3.alloc (.cells #[.nilFunc] 76) = w5 at *
  clear hM
  rotate_left
  refine wpOp_okN (N := some 6) (v := .pointer (some ⟨w3.heap.size, 0, none⟩)) (w1 := w3.alloc (.cells #[.nilFunc] 76)) rfl rfl rfl (by go_simp; try rfl) ⟨blk_cell (blk_alloc X1 _) 3, ?_⟩
  simp only [Act.put, List.setIfInBounds_toArray, List.set_cons_zero, List.set_cons_succ]
  have Z1 := Cell1.new w3 76 .nilFunc
  have gz : w.heap.size ≤ w3.heap.size := K1.size
  have gX : X < w3.heap.size := blk_lt X1
  replace P1 := P1.alloc (.cells #[.nilFunc] 76)
  replace K1 := K1.alloc (.cells #[.nilFunc] 76)
  replace X1 := blk_alloc X1 (.cells #[.nilFunc] 76)
  replace hS : (fun w' : World => w'.cell? ⟨X, 3, none⟩ = some (.string q)) (w3.alloc (.cells #[.nilFunc] 76)) := blk_cell X1 3
  replace hl := flags_look (hM.below (below_alloc (Below.refl _ _) (.cells #[.nilFunc] 76))) q (by omega)
  simp only [hq1] at hl
  generalize w3.heap.size = b6 at *
  generalize w3.alloc (.cells #[.nilFunc] 76) = w5 at *
  refine wpAnyH_one (i := 3) (by kernel_rfl) ?_
  refine wpOp_okN (N := some 84) (v := .tuple #[.nilFunc, .bool false]) (w1 := w5) rfl rfl rfl (by go_simp) ⟨hS, ?_⟩
  simp only [Act.put, List.setIfInBounds_toArray, List.set_cons_zero, List.set_cons_succ]
  clear hl
  refine take_ (i := 4) (N := some 80) (oi := _) (v := .tuple #[.nilFunc, .bool false]) rfl rfl (by kernel_rfl) (by kernel_rfl) (by kernel_rfl) (fun _ _ _ h => h) (Or.inl ⟨by rfl, fun w hSw => by go_simp⟩) hS ?_
  simp only [Act.put, List.setIfInBounds_toArray, List.set_cons_zero, List.set_cons_succ]
  refine take_ (i := 5) (N := some 85) (oi := _) (v := .nilFunc) rfl rfl (by kernel_rfl) (by kernel_rfl) (by kernel_rfl) (fun _ _ _ h => h) (Or.inl ⟨by rfl, fun w hSw => by go_simp⟩) hS ?_
  simp only [Act.put, List.setIfInBounds_toArray, List.set_cons_zero, List.set_cons_succ]
  refine take_ (i := 6) (N := some 86) (oi := _) (v := .bool false) rfl rfl (by kernel_rfl) (by kernel_rfl) (by kernel_rfl) (fun _ _ _ h => h) (Or.inl ⟨by rfl, fun w hSw => by go_simp⟩) hS ?_
  simp only [Act.put, List.setIfInBounds_toArray, List.set_cons_zero, List.set_cons_succ]
  clear hM
  rotate_left
  refine wpOp_okN (N := some 6) (v := .pointer (some ⟨w2.heap.size, 0, none⟩)) (w1 := w2.alloc (.cells #[.nilFunc] 76)) rfl rfl rfl (by go_simp; try rfl) ⟨blk_cell (blk_alloc X1 _) 3, ?_⟩
  simp only [Act.put, List.setIfInBounds_toArray, List.set_cons_zero, List.set_cons_succ]
  have Z1 := Cell1.new w2 76 .nilFunc
  have gz : w.heap.size ≤ w2.heap.size := K1.size
  have gX : X < w2.heap.size := blk_lt X1
  replace P1 := P1.alloc (.cells #[.nilFunc] 76)
  replace K1 := K1.alloc (.cells #[.nilFunc] 76)
  replace X1 := blk_alloc X1 (.cells #[.nilFunc] 76)
  replace hS : (fun w' : World => w'.cell? ⟨X, 3, none⟩ = some (.string q)) (w2.alloc (.cells #[.nilFunc] 76)) := blk_cell X1 3
  generalize w2.heap.size = b6 at *
  generalize w2.alloc (.cells #[.nilFunc] 76) = w4 at *
  refine wpAnyH_one (i := 0) (by kernel_rfl) ?_
  refine wpOp_callN (N := some 81) (f := 25) (args := #[]) (w1 := w4) rfl rfl rfl (by go_simp) ?_
  refine (flags_any _).mono ?_
  rintro e w5 ⟨m, nn, rfl, hm, hM, hb⟩
  replace P1 := P1.below hb
  replace K1 := K1.trans (Kp.of_below hb)
  replace X1 := blk_below X1 hb
  refine ⟨_, rfl, blk_cell X1 3, ?_⟩
  replace hS : (fun w' : World => w'.cell? ⟨X, 3, none⟩ = some (.string q)) w5 := blk_cell X1 3
  simp only [Act.put, List.setIfInBounds_toArray, List.set_cons_zero, List.set_cons_succ]
  have hl := flags_look hM q (by omega)
  replace Z1 := Z1.below hb
  clear hm hb
  simp only [hq1] at hl
  refine wpAnyH_one (i := 3) (by kernel_rfl) ?_
  refine wpOp_okN (N := some 84) (v := .tuple #[.nilFunc, .bool false]) (w1 := w5) rfl rfl rfl (by go_simp) ⟨hS, ?_⟩
  simp only [Act.put, List.setIfInBounds_toArray, List.set_cons_zero, List.set_cons_succ]
  clear hl
  refine take_ (i := 4) (N := some 80) (oi := _) (v := .tuple #[.nilFunc, .bool false]) rfl rfl (by kernel_rfl) (by kernel_rfl) (by kernel_rfl) (fun _ _ _ h => h) (Or.inl ⟨by rfl, fun w hSw => by go_simp⟩) hS ?_
  simp only [Act.put, List.setIfInBounds_toArray, List.set_cons_zero, List.set_cons_succ]
  refine take_ (i := 5) (N := some 85) (oi := _) (v := .nilFunc) rfl rfl (by kernel_rfl) (by kernel_rfl) (by kernel_rfl) (fun _ _ _ h => h) (Or.inl ⟨by rfl, fun w hSw => by go_simp⟩) hS ?_
  simp only [Act.put, List.setIfInBounds_toArray, List.set_cons_zero, List.set_cons_succ]
  refine take_ (i := 6) (N := some 86) (oi := _) (v := .bool false) rfl rfl (by kernel_rfl) (by kernel_rfl) (by kernel_rfl) (fun _ _ _ h => h) (Or.inl ⟨by rfl, fun w hSw => by go_simp⟩) hS ?_
  simp only [Act.put, List.setIfInBounds_toArray, List.set_cons_zero, List.set_cons_succ]
  clear hM
  rotate_left
  all_goals
    have z0 := Z1.at
    have zf := blk_frozen Z1.out 0
    have hne : b6 ≠ G := by omega
    refine wpAnyH_one (i := 8) (by kernel_rfl) ?_
    refine wpOp_skip (w1 := w5.setCell ⟨b6, 0, none⟩ .nilFunc) rfl rfl (by go_simp) ?_
    replace P1 : PS G s i 1 p n q d (w5.setCell ⟨b6, 0, none⟩ .nilFunc) := ⟨blk_far P1.out (Ne.symm hne) _⟩
    replace K1 := K1.setNew gz 0 .nilFunc
    replace X1 := blk_far X1 (p := ⟨b6, 0, none⟩) (by show X ≠ b6; omega) .nilFunc
    replace hS : (fun w' : World => w'.cell? ⟨X, 3, none⟩ = some (.string q)) (w5.setCell ⟨b6, 0, none⟩ .nilFunc) := blk_cell X1 3
    refine ⟨hS, ?_⟩
    simp only [Act.put, List.setIfInBounds_toArray, List.set_cons_zero, List.set_cons_succ]
    clear Z1 z0 zf hne gz gX
    generalize w5.setCell ⟨b6, 0, none⟩ .nilFunc = w6 at *
    refine wpAnyH_one (i := 9) (by kernel_rfl) ?_
    refine wpOp_okN (N := some 7) (v := .bool false) (w1 := w6) rfl rfl rfl (by go_simp) ⟨hS, ?_⟩
    simp only [Act.put, List.setIfInBounds_toArray, List.set_cons_zero, List.set_cons_succ]
    refine wpAnyH_done (by kernel_rfl) ?_ _
    clear hS
    go_wp2_with fail
    refine wp_region_held (S := fun w' => w'.cell? ⟨X, 3, none⟩ = some (.string q)) (by kernel_rfl) ?_
    change wpAnyH _ _ _ _ _ _ _ _ w6.drew
    replace P1 := P1.drew
    replace K1 := K1.drew
    replace X1 := blk_drew X1
    generalize w6.drew = w7 at *
    have hS : (fun w' : World => w'.cell? ⟨X, 3, none⟩ = some (.string q)) w7 := blk_cell X1 3
    refine take_ (i := 1) (N := some 89) (oi := _) (v := .pointer (some ⟨X, 3, none⟩)) rfl rfl (by kernel_rfl) (by kernel_rfl) (by kernel_rfl) (fun _ _ _ h => h) (Or.inl ⟨by rfl, fun w hSw => by go_simp⟩) hS ?_
    simp only [Act.put, List.setIfInBounds_toArray, List.set_cons_zero, List.set_cons_succ]
    refine take_ (i := 2) (N := some 90) (oi := _) (v := .string q) rfl rfl (by kernel_rfl) (by kernel_rfl) (by kernel_rfl) (fun _ _ _ h => h) (Or.inl ⟨by rfl, fun w hSw => by go_simp⟩) hS ?_
    simp only [Act.put, List.setIfInBounds_toArray, List.set_cons_zero, List.set_cons_succ]
    refine wpAnyH_one (i := 0) (by kernel_rfl) ?_
    refine wpOp_callN (N := some 88) (f := 23) (args := #[]) (w1 := w7) rfl rfl rfl (by go_simp) ?_
    refine (numbers_any _).mono ?_
    rintro e w8 ⟨m, nn, rfl, hm, hM, hb⟩
    replace P1 := P1.below hb
    replace K1 := K1.trans (Kp.of_below hb)
    replace X1 := blk_below X1 hb
    refine ⟨_, rfl, blk_cell X1 3, ?_⟩
    replace hS : (fun w' : World => w'.cell? ⟨X, 3, none⟩ = some (.string q)) w8 := blk_cell X1 3
    simp only [Act.put, List.setIfInBounds_toArray, List.set_cons_zero, List.set_cons_succ]
    have hl := numbers_look hM q (by omega)
    clear hm hb
    simp only [hq] at hl
    refine wpAnyH_one (i := 3) (by kernel_rfl) ?_
    refine wpOp_okN (N := some 91) (v := .tuple #[fnV g, .bool true]) (w1 := w8) rfl rfl rfl (by go_simp) ⟨hS, ?_⟩
    simp only [Act.put, List.setIfInBounds_toArray, List.set_cons_zero, List.set_cons_succ]
    clear hl
    refine take_ (i := 4) (N := some 87) (oi := _) (v := .tuple #[fnV g, .bool true]) rfl rfl (by kernel_rfl) (by kernel_rfl) (by kernel_rfl) (fun _ _ _ h => h) (Or.inl ⟨by rfl, fun w hSw => by go_simp⟩) hS ?_
    simp only [Act.put, List.setIfInBounds_toArray, List.set_cons_zero, List.set_cons_succ]
    refine take_ (i := 5) (N := some 92) (oi := _) (v := (fnV g)) rfl rfl (by kernel_rfl) (by kernel_rfl) (by kernel_rfl) (fun _ _ _ h => h) (Or.inl ⟨by rfl, fun w hSw => by go_simp⟩) hS ?_
    simp only [Act.put, List.setIfInBounds_toArray, List.set_cons_zero, List.set_cons_succ]
    refine take_ (i := 6) (N := some 93) (oi := _) (v := .bool true) rfl rfl (by kernel_rfl) (by kernel_rfl) (by kernel_rfl) (fun _ _ _ h => h) (Or.inl ⟨by rfl, fun w hSw => by go_simp⟩) hS ?_
    simp only [Act.put, List.setIfInBounds_toArray, List.set_cons_zero, List.set_cons_succ]
    refine wpAnyH_one (i := 7) (by kernel_rfl) ?_
    refine wpOp_okN (N := some 8) (v := (fnV g)) (w1 := w8) rfl rfl rfl (by go_simp) ⟨hS, ?_⟩
    simp only [Act.put, List.setIfInBounds_toArray, List.set_cons_zero, List.set_cons_succ]
    refine wpAnyH_one (i := 8) (by kernel_rfl) ?_
    refine wpOp_okN (N := some 9) (v := .bool true) (w1 := w8) rfl rfl rfl (by go_simp) ⟨hS, ?_⟩
    simp only [Act.put, List.setIfInBounds_toArray, List.set_cons_zero, List.set_cons_succ]
    refine wpAnyH_done (by kernel_rfl) ?_ _
    clear hS hM
    go_wp2_with fail
    refine wp_region_held (S := fun w' => w'.cell? ⟨X, 3, none⟩ = some (.string q)) (by kernel_rfl) ?_
    change wpAnyH _ _ _ _ _ _ _ _ w8.drew
    replace P1 := P1.drew
    replace K1 := K1.drew
    replace X1 := blk_drew X1
    generalize w8.drew = w9 at *
    have hS : (fun w' : World => w'.cell? ⟨X, 3, none⟩ = some (.string q)) w9 := blk_cell X1 3
    refine take_ (i := 1) (N := some 96) (oi := _) (v := .pointer (some ⟨X, 3, none⟩)) rfl rfl (by kernel_rfl) (by kernel_rfl) (by kernel_rfl) (fun _ _ _ h => h) (Or.inl ⟨by rfl, fun w hSw => by go_simp⟩) hS ?_
    simp only [Act.put, List.setIfInBounds_toArray, List.set_cons_zero, List.set_cons_succ]
    refine take_ (i := 2) (N := some 97) (oi := _) (v := .string q) rfl rfl (by kernel_rfl) (by kernel_rfl) (by kernel_rfl) (fun _ _ _ h => h) (Or.inl ⟨by rfl, fun w hSw => by go_simp⟩) hS ?_
    simp only [Act.put, List.setIfInBounds_toArray, List.set_cons_zero, List.set_cons_succ]
    refine wpAnyH_one (i := 0) (by kernel_rfl) ?_
    refine wpOp_callN (N := some 95) (f := 24) (args := #[]) (w1 := w9) rfl rfl rfl (by go_simp) ?_
    refine (texts_any _).mono ?_
    rintro e w10 ⟨m, nn, rfl, hm, hM, hb⟩
    replace P1 := P1.below hb
    replace K1 := K1.trans (Kp.of_below hb)
    replace X1 := blk_below X1 hb
    refine ⟨_, rfl, blk_cell X1 3, ?_⟩
    replace hS : (fun w' : World => w'.cell? ⟨X, 3, none⟩ = some (.string q)) w10 := blk_cell X1 3
    simp only [Act.put, List.setIfInBounds_toArray, List.set_cons_zero, List.set_cons_succ]
    have hl := texts_look hM q (by omega)
    clear hm hb
    simp only [hq2] at hl
    refine wpAnyH_one (i := 3) (by kernel_rfl) ?_
    refine wpOp_okN (N := some 98) (v := .tuple #[.nilFunc, .bool false]) (w1 := w10) rfl rfl rfl (by go_simp) ⟨hS, ?_⟩
    simp only [Act.put, List.setIfInBounds_toArray, List.set_cons_zero, List.set_cons_succ]
    clear hl
    refine take_ (i := 4) (N := some 94) (oi := _) (v := .tuple #[.nilFunc, .bool false]) rfl rfl (by kernel_rfl) (by kernel_rfl) (by kernel_rfl) (fun _ _ _ h => h) (Or.inl ⟨by rfl, fun w hSw => by go_simp⟩) hS ?_
    simp only [Act.put, List.setIfInBounds_toArray, List.set_cons_zero, List.set_cons_succ]
    refine take_ (i := 5) (N := some 99) (oi := _) (v := .nilFunc) rfl rfl (by kernel_rfl) (by kernel_rfl) (by kernel_rfl) (fun _ _ _ h => h) (Or.inl ⟨by rfl, fun w hSw => by go_simp⟩) hS ?_
    simp only [Act.put, List.setIfInBounds_toArray, List.set_cons_zero, List.set_cons_succ]
    refine take_ (i := 6) (N := some 100) (oi := _) (v := .bool false) rfl rfl (by kernel_rfl) (by kernel_rfl) (by kernel_rfl) (fun _ _ _ h => h) (Or.inl ⟨by rfl, fun w hSw => by go_simp⟩) hS ?_
    simp only [Act.put, List.setIfInBounds_toArray, List.set_cons_zero, List.set_cons_succ]
    refine wpAnyH_one (i := 7) (by kernel_rfl) ?_
    refine wpOp_okN (N := some 10) (v := .nilFunc) (w1 := w10) rfl rfl rfl (by go_simp) ⟨hS, ?_⟩
    simp only [Act.put, List.setIfInBounds_toArray, List.set_cons_zero, List.set_cons_succ]
    refine wpAnyH_one (i := 8) (by kernel_rfl) ?_
    refine wpOp_okN (N := some 11) (v := .bool false) (w1 := w10) rfl rfl rfl (by go_simp) ⟨hS, ?_⟩
    simp only [Act.put, List.setIfInBounds_toArray, List.set_cons_zero, List.set_cons_succ]
    refine wpAnyH_done (by kernel_rfl) ?_ _
    clear hS hM
    have x0 : w10.cell? ⟨X, 0, none⟩ = some (.int .i64 1) := blk_cell X1 0
    have x3 : w10.cell? ⟨X, 3, none⟩ = some (.string q) := blk_cell X1 3
    clear X1
    go_wp2_with (first
      | (go_at_call 11; refine (h1 _ _ _ _ _ P1).mono ?_; rintro e w11 ⟨rfl, P2, K2⟩; clear x0 x3)
      | (go_at_call 51; refine (hc _ P2).mono ?_; rintro e w12 ⟨v, rfl, hR, P3, K3⟩))
    go_ret
    exact ⟨_, rfl, hR, P3, (K1.trans K2).trans K3⟩

set_option maxRecDepth 100000 in
set_option maxHeartbeats 8000000 in
theorem part_text (G : Nat) (s : ByteArray) (i p n : Int) (q : ByteArray) (d : Int) (w : World) (h : PS G s i 1 p n q d w) (g : Nat) (hz : q.size ≤ 1000) (hnot : (q.toList == ([110, 111, 116] : List UInt8)) = false) (hq : txtF q.data.toList = some (fnV g)) (hq1 : flgF q.data.toList = none) (hq2 : numF q.data.toList = none)
    {i1 k1 p1 n1 : Int} {q1 : ByteArray} {PE : World → Prop} {R : World → Value → Prop} (h1 : NextTo G s i d i1 k1 p1 n1 q1)
    (hc : ∀ W, PS G s i1 k1 p1 n1 q1 d W → Calls Try.prog 52 #[ptr G, fnV g] W fun e w' => ∃ v, e = .returned v ∧ R w' v ∧ PE w' ∧ Kp G W w') :
    Calls Try.prog 30 #[ptr G] w fun e w' => ∃ v, e = .returned v ∧ R w' v ∧ PE w' ∧ Kp G w w' := by
  have c2 := h.c2
  have c3 := h.c3
  have c4 := h.c4
  have c5 := h.c5
  have hlt := h.lt
  go_enter Try.func30, Try.ntmps30
  go_wp2_with fail
  have P1 := h.alloc (.cells #[.int .i64 1, .int .i64 p, .int .i64 n, .string q] 50)
  have K1 := (Kp.refl G w).alloc (.cells #[.int .i64 1, .int .i64 p, .int .i64 n, .string q] 50)
  have X1 := heap_alloc_new w (.cells #[.int .i64 1, .int .i64 p, .int .i64 n, .string q] 50)
  clear c2 c3 c4 c5 h
  generalize w.alloc (.cells #[.int .i64 1, .int .i64 p, .int .i64 n, .string q] 50) = w1 at *
  generalize hX : w.heap.size = X at *
  refine wp_region_held (S := fun w' => w'.cell? ⟨X, 3, none⟩ = some (.string q)) (by kernel_rfl) ?_
  change wpAnyH _ _ _ _ _ _ _ _ w1.drew
  replace P1 := P1.drew
  replace K1 := K1.drew
  replace X1 := blk_drew X1
  generalize w1.drew = w2 at *
  have hS : (fun w' : World => w'.cell? ⟨X, 3, none⟩ = some (.string q)) w2 := blk_cell X1 3
  refine take_ (i := 1) (N := some 82) (oi := _) (v := .pointer (some ⟨X, 3, none⟩)) rfl rfl (by kernel_rfl) (by kernel_rfl) (by kernel_rfl) (fun _ _ _ h => h) (Or.inl ⟨by rfl, fun w hSw => by go_simp⟩) hS ?_
  simp only [Act.put, List.setIfInBounds_toArray, List.set_cons_zero, List.set_cons_succ]
  refine take_ (i := 2) (N := some 83) (oi := _) (v := .string q) rfl rfl (by kernel_rfl) (by kernel_rfl) (by kernel_rfl) (fun _ _ _ h => h) (Or.inl ⟨by rfl, fun w hSw => by go_simp⟩) hS ?_
  simp only [Act.put, List.setIfInBounds_toArray, List.set_cons_zero, List.set_cons_succ]
  refine wpAnyH_all (rs := [0, 7]) (by kernel_rfl) (by simp) ?_
  intro i0 hi0
  simp only [List.mem_cons, List.not_mem_nil, or_false] at hi0
  rcases hi0 with rfl | rfl
  refine wpOp_callN (N := some 81) (f := 25) (args := #[]) (w1 := w2) rfl rfl rfl (by go_simp) ?_
  refine (flags_any _).mono ?_
  rintro e w3 ⟨m, nn, rfl, hm, hM, hb⟩
  replace P1 := P1.below hb
  replace K1 := K1.trans (Kp.of_below hb)
  replace X1 := blk_below X1 hb
  refine ⟨_, rfl, blk_cell X1 3, ?_⟩
  replace hS : (fun w' : World => w'.cell? ⟨X, 3, none⟩ = some (.string q)) w3 := blk_cell X1 3
  simp only [Act.put, List.setIfInBounds_toArray, List.set_cons_zero, List.set_cons_succ]
  have hl := flags_look hM q (by omega)
  clear hm hb
  simp only [hq1] at hl
  refine wpAnyH_all (rs := [3, 7]) (by kernel_rfl) (by simp) ?_
  intro i0 hi0
  simp only [List.mem_cons, List.not_mem_nil, or_false] at hi0
  rcases hi0 with rfl | rfl
  refine wpOp_okN (N := some 84) (v := .tuple #[.nilFunc, .bool false]) (w1 := w3) rfl rfl rfl (by go_simp) ⟨hS, ?_⟩
  simp only [Act.put, List.setIfInBounds_toArray, List.set_cons_zero, List.set_cons_succ]
  clear hl
  refine take_ (i := 4) (N := some 80) (oi := _) (v := .tuple #[.nilFunc, .bool false]) rfl rfl (by kernel_rfl) (by kernel_rfl) (by kernel_rfl) (fun _ _ _ h => h) (Or.inl ⟨by rfl, fun w hSw => by go_simp⟩) hS ?_
  simp only [Act.put, List.setIfInBounds_toArray, List.set_cons_zero, List.set_cons_succ]
  refine take_ (i := 5) (N := some 85) (oi := _) (v := .nilFunc) rfl rfl (by kernel_rfl) (by kernel_rfl) (by kernel_rfl) (fun _ _ _ h => h) (Or.inl ⟨by rfl, fun w hSw => by go_simp⟩) hS ?_
  simp only [Act.put, List.setIfInBounds_toArray, List.set_cons_zero, List.set_cons_succ]
  refine take_ (i := 6) (N := some 86) (oi := _) (v := .bool false) rfl rfl (by kernel_rfl) (by kernel_rfl) (by kernel_rfl) (fun _ _ _ h => h) (Or.inl ⟨by rfl, fun w hSw => by go_simp⟩) hS ?_
  simp only [Act.put, List.setIfInBounds_toArray, List.set_cons_zero, List.set_cons_succ]
  refine wpAnyH_one (i := 7) (by kernel_rfl) ?_
  refine wpOp_okN (N := some 6) (v := .pointer (some ⟨w3.heap.size, 0, none⟩)) (w1 := w3.alloc (.cells #[.nilFunc] 76)) rfl rfl rfl (by go_simp; try rfl) ⟨blk_cell (blk_alloc X1 _) 3, ?_⟩
  simp only [Act.put, List.setIfInBounds_toArray, List.set_cons_zero, List.set_cons_succ]
  have Z1 := Cell1.new w3 76 .nilFunc
  have gz : w.heap.size ≤ w3.heap.size := K1.size
  have gX : X < w3.heap.size := blk_lt X1
  replace P1 := P1.alloc (.cells #[.nilFunc] 76)
  replace K1 := K1.alloc (.cells #[.nilFunc] 76)
  replace X1 := blk_alloc X1 (.cells #[.nilFunc] 76)
  replace hS : (fun w' : World => w'.cell? ⟨X, 3, none⟩ = some (.string q)) (w3.alloc (.cells #[.nilFunc] 76)) := blk_cell X1 3
  generalize w3.heap.size = b6 at *
  generalize w3.alloc (.cells #[.nilFunc] 76) = w5 at *
  clear hM
  rotate_left
  refine wpOp_okN (N := some 6) (v := .pointer (some ⟨w3.heap.size, 0, none⟩)) (w1 := w3.alloc (.cells #[.nilFunc] 76)) rfl rfl rfl (by go_simp; try rfl) ⟨blk_cell (blk_alloc X1 _) 3, ?_⟩
  simp only [Act.put, List.setIfInBounds_toArray, List.set_cons_zero, List.set_cons_succ]
  have Z1 := Cell1.new w3 76 .nilFunc
  have gz : w.heap.size ≤ w3.heap.size := K1.size
  have gX : X < w3.heap.size := blk_lt X1
  replace P1 := P1.alloc (.cells #[.nilFunc] 76)
  replace K1 := K1.alloc (.cells #[.nilFunc] 76)
  replace X1 := blk_alloc X1 (.cells #[.nilFunc] 76)
  replace hS : (fun w' : World => w'.cell? ⟨X, 3, none⟩ = some (.string q)) (w3.alloc (.cells #[.nilFunc] 76)) := blk_cell X1 3
  replace hl := flags_look (hM.below (below_alloc (Below.refl _ _) (.cells #[.nilFunc] 76))) q (by omega)
  simp only [hq1] at hl
  generalize w3.heap.size = b6 at *
  generalize w3.alloc (.cells #[.nilFunc] 76) = w5 at *
  refine wpAnyH_one (i := 3) (by kernel_rfl) ?_
  refine wpOp_okN (N := some 84) (v := .tuple #[.nilFunc, .bool false]) (w1 := w5) rfl rfl rfl (by go_simp) ⟨hS, ?_⟩
  simp only [Act.put, List.setIfInBounds_toArray, List.set_cons_zero, List.set_cons_succ]
  clear hl
  refine take_ (i := 4) (N := some 80) (oi := _) (v := .tuple #[.nilFunc, .bool false]) rfl rfl (by kernel_rfl) (by kernel_rfl) (by kernel_rfl) (fun _ _ _ h => h) (Or.inl ⟨by rfl, fun w hSw => by go_simp⟩) hS ?_
  simp only [Act.put, List.setIfInBounds_toArray, List.set_cons_zero, List.set_cons_succ]
  refine take_ (i := 5) (N := some 85) (oi := _) (v := .nilFunc) rfl rfl (by kernel_rfl) (by kernel_rfl) (by kernel_rfl) (fun _ _ _ h => h) (Or.inl ⟨by rfl, fun w hSw => by go_simp⟩) hS ?_
  simp only [Act.put, List.setIfInBounds_toArray, List.set_cons_zero, List.set_cons_succ]
  refine take_ (i := 6) (N := some 86) (oi := _) (v := .bool false) rfl rfl (by kernel_rfl) (by kernel_rfl) (by kernel_rfl) (fun _ _ _ h => h) (Or.inl ⟨by rfl, fun w hSw => by go_simp⟩) hS ?_
  simp only [Act.put, List.setIfInBounds_toArray, List.set_cons_zero, List.set_cons_succ]
  clear hM
  rotate_left
  refine wpOp_okN (N := some 6) (v := .pointer (some ⟨w2.heap.size, 0, none⟩)) (w1 := w2.alloc (.cells #[.nilFunc] 76)) rfl rfl rfl (by go_simp; try rfl) ⟨blk_cell (blk_alloc X1 _) 3, ?_⟩
  simp only [Act.put, List.setIfInBounds_toArray, List.set_cons_zero, List.set_cons_succ]
  have Z1 := Cell1.new w2 76 .nilFunc
  have gz : w.heap.size ≤ w2.heap.size := K1.size
  have gX : X < w2.heap.size := blk_lt X1
  replace P1 := P1.alloc (.cells #[.nilFunc] 76)
  replace K1 := K1.alloc (.cells #[.nilFunc] 76)
  replace X1 := blk_alloc X1 (.cells #[.nilFunc] 76)
  replace hS : (fun w' : World => w'.cell? ⟨X, 3, none⟩ = some (.string q)) (w2.alloc (.cells #[.nilFunc] 76)) := blk_cell X1 3
  generalize w2.heap.size = b6 at *
  generalize w2.alloc (.cells #[.nilFunc] 76) = w4 at *
  refine wpAnyH_one (i := 0) (by kernel_rfl) ?_
  refine wpOp_callN (N := some 81) (f := 25) (args := #[]) (w1 := w4) rfl rfl rfl (by go_simp) ?_
  refine (flags_any _).mono ?_
  rintro e w5 ⟨m, nn, rfl, hm, hM, hb⟩
  replace P1 := P1.below hb
  replace K1 := K1.trans (Kp.of_below hb)
  replace X1 := blk_below X1 hb
  refine ⟨_, rfl, blk_cell X1 3, ?_⟩
  replace hS : (fun w' : World => w'.cell? ⟨X, 3, none⟩ = some (.string q)) w5 := blk_cell X1 3
  simp only [Act.put, List.setIfInBounds_toArray, List.set_cons_zero, List.set_cons_succ]
  have hl := flags_look hM q (by omega)
  replace Z1 := Z1.below hb
  clear hm hb
  simp only [hq1] at hl
  refine wpAnyH_one (i := 3) (by kernel_rfl) ?_
  refine wpOp_okN (N := some 84) (v := .tuple #[.nilFunc, .bool false]) (w1 := w5) rfl rfl rfl (by go_simp) ⟨hS, ?_⟩
  simp only [Act.put, List.setIfInBounds_toArray, List.set_cons_zero, List.set_cons_succ]
  clear hl
  refine take_ (i := 4) (N := some 80) (oi := _) (v := .tuple #[.nilFunc, .bool false]) rfl rfl (by kernel_rfl) (by kernel_rfl) (by kernel_rfl) (fun _ _ _ h => h) (Or.inl ⟨by rfl, fun w hSw => by go_simp⟩) hS ?_
  simp only [Act.put, List.setIfInBounds_toArray, List.set_cons_zero, List.set_cons_succ]
  refine take_ (i := 5) (N := some 85) (oi := _) (v := .nilFunc) rfl rfl (by kernel_rfl) (by kernel_rfl) (by kernel_rfl) (fun _ _ _ h => h) (Or.inl ⟨by rfl, fun w hSw => by go_simp⟩) hS ?_
  simp only [Act.put, List.setIfInBounds_toArray, List.set_cons_zero, List.set_cons_succ]
  refine take_ (i := 6) (N := some 86) (oi := _) (v := .bool false) rfl rfl (by kernel_rfl) (by kernel_rfl) (by kernel_rfl) (fun _ _ _ h => h) (Or.inl ⟨by rfl, fun w hSw => by go_simp⟩) hS ?_
  simp only [Act.put, List.setIfInBounds_toArray, List.set_cons_zero, List.set_cons_succ]
  clear hM
  rotate_left
  all_goals
    have z0 := Z1.at
    have zf := blk_frozen Z1.out 0
    have hne : b6 ≠ G := by omega
    refine wpAnyH_one (i := 8) (by kernel_rfl) ?_
    refine wpOp_skip (w1 := w5.setCell ⟨b6, 0, none⟩ .nilFunc) rfl rfl (by go_simp) ?_
    replace P1 : PS G s i 1 p n q d (w5.setCell ⟨b6, 0, none⟩ .nilFunc) := ⟨blk_far P1.out (Ne.symm hne) _⟩
    replace K1 := K1.setNew gz 0 .nilFunc
    replace X1 := blk_far X1 (p := ⟨b6, 0, none⟩) (by show X ≠ b6; omega) .nilFunc
    replace hS : (fun w' : World => w'.cell? ⟨X, 3, none⟩ = some (.string q)) (w5.setCell ⟨b6, 0, none⟩ .nilFunc) := blk_cell X1 3
    refine ⟨hS, ?_⟩
    simp only [Act.put, List.setIfInBounds_toArray, List.set_cons_zero, List.set_cons_succ]
    clear Z1 z0 zf hne gz gX
    generalize w5.setCell ⟨b6, 0, none⟩ .nilFunc = w6 at *
    refine wpAnyH_one (i := 9) (by kernel_rfl) ?_
    refine wpOp_okN (N := some 7) (v := .bool false) (w1 := w6) rfl rfl rfl (by go_simp) ⟨hS, ?_⟩
    simp only [Act.put, List.setIfInBounds_toArray, List.set_cons_zero, List.set_cons_succ]
    refine wpAnyH_done (by kernel_rfl) ?_ _
    clear hS
    go_wp2_with fail
    refine wp_region_held (S := fun w' => w'.cell? ⟨X, 3, none⟩ = some (.string q)) (by kernel_rfl) ?_
    change wpAnyH _ _ _ _ _ _ _ _ w6.drew
    replace P1 := P1.drew
    replace K1 := K1.drew
    replace X1 := blk_drew X1
    generalize w6.drew = w7 at *
    have hS : (fun w' : World => w'.cell? ⟨X, 3, none⟩ = some (.string q)) w7 := blk_cell X1 3
    refine take_ (i := 1) (N := some 89) (oi := _) (v := .pointer (some ⟨X, 3, none⟩)) rfl rfl (by kernel_rfl) (by kernel_rfl) (by kernel_rfl) (fun _ _ _ h => h) (Or.inl ⟨by rfl, fun w hSw => by go_simp⟩) hS ?_
    simp only [Act.put, List.setIfInBounds_toArray, List.set_cons_zero, List.set_cons_succ]
    refine take_ (i := 2) (N := some 90) (oi := _) (v := .string q) rfl rfl (by kernel_rfl) (by kernel_rfl) (by kernel_rfl) (fun _ _ _ h => h) (Or.inl ⟨by rfl, fun w hSw => by go_simp⟩) hS ?_
    simp only [Act.put, List.setIfInBounds_toArray, List.set_cons_zero, List.set_cons_succ]
    refine wpAnyH_one (i := 0) (by kernel_rfl) ?_
    refine wpOp_callN (N := some 88) (f := 23) (args := #[]) (w1 := w7) rfl rfl rfl (by go_simp) ?_
    refine (numbers_any _).mono ?_
    rintro e w8 ⟨m, nn, rfl, hm, hM, hb⟩
    replace P1 := P1.below hb
    replace K1 := K1.trans (Kp.of_below hb)
    replace X1 := blk_below X1 hb
    refine ⟨_, rfl, blk_cell X1 3, ?_⟩
    replace hS : (fun w' : World => w'.cell? ⟨X, 3, none⟩ = some (.string q)) w8 := blk_cell X1 3
    simp only [Act.put, List.setIfInBounds_toArray, List.set_cons_zero, List.set_cons_succ]
    have hl := numbers_look hM q (by omega)
    clear hm hb
    simp only [hq2] at hl
    refine wpAnyH_one (i := 3) (by kernel_rfl) ?_
    refine wpOp_okN (N := some 91) (v := .tuple #[.nilFunc, .bool false]) (w1 := w8) rfl rfl rfl (by go_simp) ⟨hS, ?_⟩
    simp only [Act.put, List.setIfInBounds_toArray, List.set_cons_zero, List.set_cons_succ]
    clear hl
    refine take_ (i := 4) (N := some 87) (oi := _) (v := .tuple #[.nilFunc, .bool false]) rfl rfl (by kernel_rfl) (by kernel_rfl) (by kernel_rfl) (fun _ _ _ h => h) (Or.inl ⟨by rfl, fun w hSw => by go_simp⟩) hS ?_
    simp only [Act.put, List.setIfInBounds_toArray, List.set_cons_zero, List.set_cons_succ]
    refine take_ (i := 5) (N := some 92) (oi := _) (v := .nilFunc) rfl rfl (by kernel_rfl) (by kernel_rfl) (by kernel_rfl) (fun _ _ _ h => h) (Or.inl ⟨by rfl, fun w hSw => by go_simp⟩) hS ?_
    simp only [Act.put, List.setIfInBounds_toArray, List.set_cons_zero, List.set_cons_succ]
    refine take_ (i := 6) (N := some 93) (oi := _) (v := .bool false) rfl rfl (by kernel_rfl) (by kernel_rfl) (by kernel_rfl) (fun _ _ _ h => h) (Or.inl ⟨by rfl, fun w hSw => by go_simp⟩) hS ?_
    simp only [Act.put, List.setIfInBounds_toArray, List.set_cons_zero, List.set_cons_succ]
    refine wpAnyH_one (i := 7) (by kernel_rfl) ?_
    refine wpOp_okN (N := some 8) (v := .nilFunc) (w1 := w8) rfl rfl rfl (by go_simp) ⟨hS, ?_⟩
    simp only [Act.put, List.setIfInBounds_toArray, List.set_cons_zero, List.set_cons_succ]
    refine wpAnyH_one (i := 8) (by kernel_rfl) ?_
    refine wpOp_okN (N := some 9) (v := .bool false) (w1 := w8) rfl rfl rfl (by go_simp) ⟨hS, ?_⟩
    simp only [Act.put, List.setIfInBounds_toArray, List.set_cons_zero, List.set_cons_succ]
    refine wpAnyH_done (by kernel_rfl) ?_ _
    clear hS hM
    go_wp2_with fail
    refine wp_region_held (S := fun w' => w'.cell? ⟨X, 3, none⟩ = some (.string q)) (by kernel_rfl) ?_
    change wpAnyH _ _ _ _ _ _ _ _ w8.drew
    replace P1 := P1.drew
    replace K1 := K1.drew
    replace X1 := blk_drew X1
    generalize w8.drew = w9 at *
    have hS : (fun w' : World => w'.cell? ⟨X, 3, none⟩ = some (.string q)) w9 := blk_cell X1 3
    refine take_ (i := 1) (N := some 96) (oi := _) (v := .pointer (some ⟨X, 3, none⟩)) rfl rfl (by kernel_rfl) (by kernel_rfl) (by kernel_rfl) (fun _ _ _ h => h) (Or.inl ⟨by rfl, fun w hSw => by go_simp⟩) hS ?_
    simp only [Act.put, List.setIfInBounds_toArray, List.set_cons_zero, List.set_cons_succ]
    refine take_ (i := 2) (N := some 97) (oi := _) (v := .string q) rfl rfl (by kernel_rfl) (by kernel_rfl) (by kernel_rfl) (fun _ _ _ h => h) (Or.inl ⟨by rfl, fun w hSw => by go_simp⟩) hS ?_
    simp only [Act.put, List.setIfInBounds_toArray, List.set_cons_zero, List.set_cons_succ]
    refine wpAnyH_one (i := 0) (by kernel_rfl) ?_
    refine wpOp_callN (N := some 95) (f := 24) (args := #[]) (w1 := w9) rfl rfl rfl (by go_simp) ?_
    refine (texts_any _).mono ?_
    rintro e w10 ⟨m, nn, rfl, hm, hM, hb⟩
    replace P1 := P1.below hb
    replace K1 := K1.trans (Kp.of_below hb)
    replace X1 := blk_below X1 hb
    refine ⟨_, rfl, blk_cell X1 3, ?_⟩
    replace hS : (fun w' : World => w'.cell? ⟨X, 3, none⟩ = some (.string q)) w10 := blk_cell X1 3
    simp only [Act.put, List.setIfInBounds_toArray, List.set_cons_zero, List.set_cons_succ]
    have hl := texts_look hM q (by omega)
    clear hm hb
    simp only [hq] at hl
    refine wpAnyH_one (i := 3) (by kernel_rfl) ?_
    refine wpOp_okN (N := some 98) (v := .tuple #[fnV g, .bool true]) (w1 := w10) rfl rfl rfl (by go_simp) ⟨hS, ?_⟩
    simp only [Act.put, List.setIfInBounds_toArray, List.set_cons_zero, List.set_cons_succ]
    clear hl
    refine take_ (i := 4) (N := some 94) (oi := _) (v := .tuple #[fnV g, .bool true]) rfl rfl (by kernel_rfl) (by kernel_rfl) (by kernel_rfl) (fun _ _ _ h => h) (Or.inl ⟨by rfl, fun w hSw => by go_simp⟩) hS ?_
    simp only [Act.put, List.setIfInBounds_toArray, List.set_cons_zero, List.set_cons_succ]
    refine take_ (i := 5) (N := some 99) (oi := _) (v := (fnV g)) rfl rfl (by kernel_rfl) (by kernel_rfl) (by kernel_rfl) (fun _ _ _ h => h) (Or.inl ⟨by rfl, fun w hSw => by go_simp⟩) hS ?_
    simp only [Act.put, List.setIfInBounds_toArray, List.set_cons_zero, List.set_cons_succ]
    refine take_ (i := 6) (N := some 100) (oi := _) (v := .bool true) rfl rfl (by kernel_rfl) (by kernel_rfl) (by kernel_rfl) (fun _ _ _ h => h) (Or.inl ⟨by rfl, fun w hSw => by go_simp⟩) hS ?_
    simp only [Act.put, List.setIfInBounds_toArray, List.set_cons_zero, List.set_cons_succ]
    refine wpAnyH_one (i := 7) (by kernel_rfl) ?_
    refine wpOp_okN (N := some 10) (v := (fnV g)) (w1 := w10) rfl rfl rfl (by go_simp) ⟨hS, ?_⟩
    simp only [Act.put, List.setIfInBounds_toArray, List.set_cons_zero, List.set_cons_succ]
    refine wpAnyH_one (i := 8) (by kernel_rfl) ?_
    refine wpOp_okN (N := some 11) (v := .bool true) (w1 := w10) rfl rfl rfl (by go_simp) ⟨hS, ?_⟩
    simp only [Act.put, List.setIfInBounds_toArray, List.set_cons_zero, List.set_cons_succ]
    refine wpAnyH_done (by kernel_rfl) ?_ _
    clear hS hM
    have x0 : w10.cell? ⟨X, 0, none⟩ = some (.int .i64 1) := blk_cell X1 0
    have x3 : w10.cell? ⟨X, 3, none⟩ = some (.string q) := blk_cell X1 3
    clear X1
    go_wp2_with (first
      | (go_at_call 11; refine (h1 _ _ _ _ _ P1).mono ?_; rintro e w11 ⟨rfl, P2, K2⟩; clear x0 x3)
      | (go_at_call 52; refine (hc _ P2).mono ?_; rintro e w12 ⟨v, rfl, hR, P3, K3⟩))
    go_ret
    exact ⟨_, rfl, hR, P3, (K1.trans K2).trans K3⟩
end Go.Proofs.Ythkkfkiiopfkjaa.L4
