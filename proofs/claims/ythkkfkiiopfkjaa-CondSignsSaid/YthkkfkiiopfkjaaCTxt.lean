import Derived.Test.YthkkfkiiopfkjaaCHolds
import Derived.Test.YthkkfkiiopfkjaaCallN
set_option linter.unusedVariables false
set_option linter.unusedSimpArgs false
namespace Go.Proofs.Ythkkfkiiopfkjaa.L4
open Go.RowKit Go.Proofs.YthkkfkiiopfkjaaW.PrintWords Go.Proofs.YthkkfkiiopfkjaaW.PrintLast

theorem hold_get {w : World} {B : Nat} {x : Int} {pv : Value} {A : Option Addr} {n c : Nat} (hS : StC w B x pv (.slice A n c)) :
    Calls Try.prog 37 #[ptr B] w fun e w' => e = .returned (.slice A n c) ∧ w' = w := by
  have c1 := hS.c1
  go_enter Try.func37, Try.ntmps37
  go_wp2
  go_ret
  exact ⟨rfl, rfl⟩
theorem pat_get {w : World} {B : Nat} {x : Int} {hv : Value} {A : Option Addr} {n c : Nat} (hS : StC w B x (.slice A n c) hv) :
    Calls Try.prog 36 #[ptr B] w fun e w' => e = .returned (.slice A n c) ∧ w' = w := by
  have c0 := hS.c0
  go_enter Try.func36, Try.ntmps36
  go_wp2
  go_ret
  exact ⟨rfl, rfl⟩

set_option maxRecDepth 100000 in
set_option maxHeartbeats 4000000 in
theorem txt_has_holds {w : World} {G : Nat} {v : Value} {q : ByteArray} {g : Nat} (h : TxtC G 60 w v (fnV g) q) {B1 B2 : Nat} {A : Option Addr} {n c : Nat} {r : Bool} {fg : Func} (hf1 : Try.prog.funcs[g]? = some fg) (hf2 : (fg.name == "runtime.NumGoroutine") = false) (hf3 : fg.body.isSome = true)
    (hget : ∀ w1, Below w.heap.size w w1 → Calls Try.prog g #[ptr B2] w1 fun e w' => e = .returned (.slice A n c) ∧ w' = w1)
    (hcon : ∀ w1 b3 c2, Below w.heap.size w w1 → q.size ≤ c2 → BytesAt G w1 b3 (bytesOf q) → Calls Try.prog 61 #[.slice A n c, .slice (some ⟨b3, 0, none⟩) q.size c2] w1 fun e w' => e = .returned (.bool r) ∧ Below w1.heap.size w1 w') :
    ∃ K caps, v = .func (Fn.func K) #[] caps ∧ Calls Try.prog K (#[ptr B1, ptr B2] ++ caps) w fun e w' => e = .returned (.bool r) ∧ Below w.heap.size w w' := by
  obtain ⟨b1, b2, b3, c2, rfl, h1, h2, h3, h4⟩ := h
  refine ⟨_, _, rfl, ?_⟩
  show Calls Try.prog 60 #[ptr B1, ptr B2, ptr b1, ptr b2] w _
  have d1 := h1.at
  have d2 := h2.at
  have hb0 := below_drew (Below.refl w.heap.size w)
  have hg := hget w.drew hb0
  have hcc := hcon w.drew b3 c2 hb0 h3 (h4.below hb0)
  clear hget hcon h1 h2 h3 h4
  go_enter Try.func60, Try.ntmps60
  go_wp2_with fail
  refine wp_region_held (S := fun w' => w'.cell? ⟨b1, 0, none⟩ = some (fnV g) ∧ w'.cell? ⟨b2, 0, none⟩ = some (.slice (some ⟨b3, 0, none⟩) q.size c2)) (by kernel_rfl) ?_
  change wpAnyH _ _ _ _ _ _ _ _ w.drew
  have hS : (fun w' : World => w'.cell? ⟨b1, 0, none⟩ = some (fnV g) ∧ w'.cell? ⟨b2, 0, none⟩ = some (.slice (some ⟨b3, 0, none⟩) q.size c2)) w.drew := ⟨d1, d2⟩
  have hb1 : Below w.heap.size w w.drew := hb0
  clear d1 d2 hb0
  generalize w.drew = w2 at *
  refine take_ (i := 0) (N := some 7) (oi := _) (v := fnV g) rfl rfl (by kernel_rfl) (by kernel_rfl) (by kernel_rfl) (fun _ _ _ h => h) (Or.inl ⟨by rfl, fun w hSw => by first | (obtain ⟨q0, q1⟩ := hSw; go_simp; done) | (go_simp; done)⟩) hS ?_
  simp only [Act.put, List.setIfInBounds_toArray, List.set_cons_zero, List.set_cons_succ]
  refine take_ (i := 1) (N := some 8) (oi := _) (v := ptr B2) rfl rfl (by kernel_rfl) (by kernel_rfl) (by kernel_rfl) (fun _ _ _ h => h) (Or.inl ⟨by rfl, fun w hSw => by first | (obtain ⟨q0, q1⟩ := hSw; go_simp; done) | (go_simp; done)⟩) hS ?_
  simp only [Act.put, List.setIfInBounds_toArray, List.set_cons_zero, List.set_cons_succ]
  refine take_ (i := 3) (N := some 10) (oi := _) (v := .slice (some ⟨b3, 0, none⟩) q.size c2) rfl rfl (by kernel_rfl) (by kernel_rfl) (by kernel_rfl) (fun _ _ _ h => h) (Or.inl ⟨by rfl, fun w hSw => by first | (obtain ⟨q0, q1⟩ := hSw; go_simp; done) | (go_simp; done)⟩) hS ?_
  simp only [Act.put, List.setIfInBounds_toArray, List.set_cons_zero, List.set_cons_succ]
  refine wpAnyH_one (i := 2) (by kernel_rfl) ?_
  refine wpOp_callN (N := some 9) (f := g) (args := #[ptr B2]) (w1 := w2) rfl rfl rfl ?_ ?_
  · have he := enters_ hf1 hf2 hf3 #[ptr B2] w2
    simp [execOp, Act.eval, resolve, Deferred.ofValue, invoke, he]
  refine hg.mono ?_
  rintro e w3 ⟨rfl, rfl⟩
  refine ⟨_, rfl, hS, ?_⟩
  simp only [Act.put, List.setIfInBounds_toArray, List.set_cons_zero, List.set_cons_succ]
  refine wpAnyH_one (i := 4) (by kernel_rfl) ?_
  refine wpOp_callN (N := some 11) (f := 61) (args := #[.slice A n c, .slice (some ⟨b3, 0, none⟩) q.size c2]) (w1 := w3) rfl rfl rfl (by go_simp) ?_
  refine hcc.mono ?_
  rintro e w4 ⟨rfl, hb⟩
  have hS4 : (fun w' : World => w'.cell? ⟨b1, 0, none⟩ = some (fnV g) ∧ w'.cell? ⟨b2, 0, none⟩ = some (.slice (some ⟨b3, 0, none⟩) q.size c2)) w4 := ⟨pw_cell_below hb hS.1, pw_cell_below hb hS.2⟩
  refine ⟨_, rfl, hS4, ?_⟩
  simp only [Act.put, List.setIfInBounds_toArray, List.set_cons_zero, List.set_cons_succ]
  refine wpAnyH_one (i := 5) (by kernel_rfl) ?_
  refine wpOp_okN (N := some 6) (v := .bool r) (w1 := w4) rfl rfl rfl (by go_simp) ⟨hS4, ?_⟩
  simp only [Act.put, List.setIfInBounds_toArray, List.set_cons_zero, List.set_cons_succ]
  refine wpAnyH_done (by kernel_rfl) ?_ _
  clear hS hS4
  go_wp2_with fail
  go_ret
  exact ⟨rfl, hb1.trans (hb.mono hb1.size)⟩

set_option maxRecDepth 100000 in
set_option maxHeartbeats 4000000 in
theorem txt_is_holds {w : World} {G : Nat} {v : Value} {q : ByteArray} {g : Nat} (h : TxtC G 62 w v (fnV g) q) {B1 B2 : Nat} {A : Option Addr} {n c : Nat} {r : Bool} {fg : Func} (hf1 : Try.prog.funcs[g]? = some fg) (hf2 : (fg.name == "runtime.NumGoroutine") = false) (hf3 : fg.body.isSome = true)
    (hget : ∀ w1, Below w.heap.size w w1 → Calls Try.prog g #[ptr B2] w1 fun e w' => e = .returned (.slice A n c) ∧ w' = w1)
    (hcon : ∀ w1 b3 c2, Below w.heap.size w w1 → q.size ≤ c2 → BytesAt G w1 b3 (bytesOf q) → Calls Try.prog 59 #[.slice A n c, .slice (some ⟨b3, 0, none⟩) q.size c2] w1 fun e w' => e = .returned (.bool r) ∧ Below w1.heap.size w1 w') :
    ∃ K caps, v = .func (Fn.func K) #[] caps ∧ Calls Try.prog K (#[ptr B1, ptr B2] ++ caps) w fun e w' => e = .returned (.bool r) ∧ Below w.heap.size w w' := by
  obtain ⟨b1, b2, b3, c2, rfl, h1, h2, h3, h4⟩ := h
  refine ⟨_, _, rfl, ?_⟩
  show Calls Try.prog 62 #[ptr B1, ptr B2, ptr b1, ptr b2] w _
  have d1 := h1.at
  have d2 := h2.at
  have hb0 := below_drew (Below.refl w.heap.size w)
  have hg := hget w.drew hb0
  have hcc := hcon w.drew b3 c2 hb0 h3 (h4.below hb0)
  clear hget hcon h1 h2 h3 h4
  go_enter Try.func62, Try.ntmps62
  go_wp2_with fail
  refine wp_region_held (S := fun w' => w'.cell? ⟨b1, 0, none⟩ = some (fnV g) ∧ w'.cell? ⟨b2, 0, none⟩ = some (.slice (some ⟨b3, 0, none⟩) q.size c2)) (by kernel_rfl) ?_
  change wpAnyH _ _ _ _ _ _ _ _ w.drew
  have hS : (fun w' : World => w'.cell? ⟨b1, 0, none⟩ = some (fnV g) ∧ w'.cell? ⟨b2, 0, none⟩ = some (.slice (some ⟨b3, 0, none⟩) q.size c2)) w.drew := ⟨d1, d2⟩
  have hb1 : Below w.heap.size w w.drew := hb0
  clear d1 d2 hb0
  generalize w.drew = w2 at *
  refine take_ (i := 0) (N := some 7) (oi := _) (v := fnV g) rfl rfl (by kernel_rfl) (by kernel_rfl) (by kernel_rfl) (fun _ _ _ h => h) (Or.inl ⟨by rfl, fun w hSw => by first | (obtain ⟨q0, q1⟩ := hSw; go_simp; done) | (go_simp; done)⟩) hS ?_
  simp only [Act.put, List.setIfInBounds_toArray, List.set_cons_zero, List.set_cons_succ]
  refine take_ (i := 1) (N := some 8) (oi := _) (v := ptr B2) rfl rfl (by kernel_rfl) (by kernel_rfl) (by kernel_rfl) (fun _ _ _ h => h) (Or.inl ⟨by rfl, fun w hSw => by first | (obtain ⟨q0, q1⟩ := hSw; go_simp; done) | (go_simp; done)⟩) hS ?_
  simp only [Act.put, List.setIfInBounds_toArray, List.set_cons_zero, List.set_cons_succ]
  refine take_ (i := 3) (N := some 10) (oi := _) (v := .slice (some ⟨b3, 0, none⟩) q.size c2) rfl rfl (by kernel_rfl) (by kernel_rfl) (by kernel_rfl) (fun _ _ _ h => h) (Or.inl ⟨by rfl, fun w hSw => by first | (obtain ⟨q0, q1⟩ := hSw; go_simp; done) | (go_simp; done)⟩) hS ?_
  simp only [Act.put, List.setIfInBounds_toArray, List.set_cons_zero, List.set_cons_succ]
  refine wpAnyH_one (i := 2) (by kernel_rfl) ?_
  refine wpOp_callN (N := some 9) (f := g) (args := #[ptr B2]) (w1 := w2) rfl rfl rfl ?_ ?_
  · have he := enters_ hf1 hf2 hf3 #[ptr B2] w2
    simp [execOp, Act.eval, resolve, Deferred.ofValue, invoke, he]
  refine hg.mono ?_
  rintro e w3 ⟨rfl, rfl⟩
  refine ⟨_, rfl, hS, ?_⟩
  simp only [Act.put, List.setIfInBounds_toArray, List.set_cons_zero, List.set_cons_succ]
  refine wpAnyH_one (i := 4) (by kernel_rfl) ?_
  refine wpOp_callN (N := some 11) (f := 59) (args := #[.slice A n c, .slice (some ⟨b3, 0, none⟩) q.size c2]) (w1 := w3) rfl rfl rfl (by go_simp) ?_
  refine hcc.mono ?_
  rintro e w4 ⟨rfl, hb⟩
  have hS4 : (fun w' : World => w'.cell? ⟨b1, 0, none⟩ = some (fnV g) ∧ w'.cell? ⟨b2, 0, none⟩ = some (.slice (some ⟨b3, 0, none⟩) q.size c2)) w4 := ⟨pw_cell_below hb hS.1, pw_cell_below hb hS.2⟩
  refine ⟨_, rfl, hS4, ?_⟩
  simp only [Act.put, List.setIfInBounds_toArray, List.set_cons_zero, List.set_cons_succ]
  refine wpAnyH_one (i := 5) (by kernel_rfl) ?_
  refine wpOp_okN (N := some 6) (v := .bool r) (w1 := w4) rfl rfl rfl (by go_simp) ⟨hS4, ?_⟩
  simp only [Act.put, List.setIfInBounds_toArray, List.set_cons_zero, List.set_cons_succ]
  refine wpAnyH_done (by kernel_rfl) ?_ _
  clear hS hS4
  go_wp2_with fail
  go_ret
  exact ⟨rfl, hb1.trans (hb.mono hb1.size)⟩

set_option maxRecDepth 100000 in
set_option maxHeartbeats 4000000 in
theorem chg_holds {w : World} {v : Value} (h : ChgC w v (fnV 37)) {B1 B2 : Nat} {x1 x2 : Int} {p1 p2 : Value} {A1 A2 : Option Addr} {n1 c1 n2 c2 : Nat} {r : Bool} (hS1 : StC w B1 x1 p1 (.slice A1 n1 c1)) (hS2 : StC w B2 x2 p2 (.slice A2 n2 c2))
    (hcon : Calls Try.prog 59 #[.slice A1 n1 c1, .slice A2 n2 c2] w.drew fun e w' => e = .returned (.bool r) ∧ Below w.drew.heap.size w.drew w') :
    ∃ K caps, v = .func (Fn.func K) #[] caps ∧ Calls Try.prog K (#[ptr B1, ptr B2] ++ caps) w fun e w' => e = .returned (.bool (!r)) ∧ Below w.heap.size w w' := by
  obtain ⟨b1, rfl, h1⟩ := h
  refine ⟨_, _, rfl, ?_⟩
  show Calls Try.prog 58 #[ptr B1, ptr B2, ptr b1] w _
  have d1 := h1.at
  have hb1 := below_drew (Below.refl w.heap.size w)
  replace hS1 := hS1.below hb1
  replace hS2 := hS2.below hb1
  go_enter Try.func58, Try.ntmps58
  go_wp2_with fail
  refine wp_region_held (S := fun w' => w'.cell? ⟨b1, 0, none⟩ = some (fnV 37)) (by kernel_rfl) ?_
  change wpAnyH _ _ _ _ _ _ _ _ w.drew
  have hS : (fun w' : World => w'.cell? ⟨b1, 0, none⟩ = some (fnV 37)) w.drew := d1
  clear d1 h1
  generalize w.drew = w2 at *
  refine take_ (i := 0) (N := some 6) (oi := _) (v := fnV 37) rfl rfl (by kernel_rfl) (by kernel_rfl) (by kernel_rfl) (fun _ _ _ h => h) (Or.inl ⟨by rfl, fun w hSw => by first | (obtain ⟨q0, q1⟩ := hSw; go_simp; done) | (go_simp; done)⟩) hS ?_
  simp only [Act.put, List.setIfInBounds_toArray, List.set_cons_zero, List.set_cons_succ]
  refine take_ (i := 1) (N := some 7) (oi := _) (v := ptr B1) rfl rfl (by kernel_rfl) (by kernel_rfl) (by kernel_rfl) (fun _ _ _ h => h) (Or.inl ⟨by rfl, fun w hSw => by first | (obtain ⟨q0, q1⟩ := hSw; go_simp; done) | (go_simp; done)⟩) hS ?_
  simp only [Act.put, List.setIfInBounds_toArray, List.set_cons_zero, List.set_cons_succ]
  refine take_ (i := 3) (N := some 9) (oi := _) (v := fnV 37) rfl rfl (by kernel_rfl) (by kernel_rfl) (by kernel_rfl) (fun _ _ _ h => h) (Or.inl ⟨by rfl, fun w hSw => by first | (obtain ⟨q0, q1⟩ := hSw; go_simp; done) | (go_simp; done)⟩) hS ?_
  simp only [Act.put, List.setIfInBounds_toArray, List.set_cons_zero, List.set_cons_succ]
  refine take_ (i := 4) (N := some 10) (oi := _) (v := ptr B2) rfl rfl (by kernel_rfl) (by kernel_rfl) (by kernel_rfl) (fun _ _ _ h => h) (Or.inl ⟨by rfl, fun w hSw => by first | (obtain ⟨q0, q1⟩ := hSw; go_simp; done) | (go_simp; done)⟩) hS ?_
  simp only [Act.put, List.setIfInBounds_toArray, List.set_cons_zero, List.set_cons_succ]
  refine wpAnyH_one (i := 2) (by kernel_rfl) ?_
  refine wpOp_callN (N := some 8) (f := 37) (args := #[ptr B1]) (w1 := w2) rfl rfl rfl (by go_simp) ?_
  refine (hold_get hS1).mono ?_
  rintro e w3 ⟨rfl, rfl⟩
  refine ⟨_, rfl, hS, ?_⟩
  simp only [Act.put, List.setIfInBounds_toArray, List.set_cons_zero, List.set_cons_succ]
  refine wpAnyH_one (i := 5) (by kernel_rfl) ?_
  refine wpOp_callN (N := some 11) (f := 37) (args := #[ptr B2]) (w1 := w3) rfl rfl rfl (by go_simp) ?_
  refine (hold_get hS2).mono ?_
  rintro e w4 ⟨rfl, rfl⟩
  refine ⟨_, rfl, hS, ?_⟩
  simp only [Act.put, List.setIfInBounds_toArray, List.set_cons_zero, List.set_cons_succ]
  refine wpAnyH_one (i := 6) (by kernel_rfl) ?_
  refine wpOp_callN (N := some 12) (f := 59) (args := #[.slice A1 n1 c1, .slice A2 n2 c2]) (w1 := w4) rfl rfl rfl (by go_simp) ?_
  refine hcon.mono ?_
  rintro e w5 ⟨rfl, hb⟩
  have hS5 : (fun w' : World => w'.cell? ⟨b1, 0, none⟩ = some (fnV 37)) w5 := pw_cell_below hb hS
  refine ⟨_, rfl, hS5, ?_⟩
  simp only [Act.put, List.setIfInBounds_toArray, List.set_cons_zero, List.set_cons_succ]
  refine wpAnyH_one (i := 7) (by kernel_rfl) ?_
  refine wpOp_okN (N := some 13) (v := .bool (!r)) (w1 := w5) rfl rfl rfl (by go_simp) ⟨hS5, ?_⟩
  simp only [Act.put, List.setIfInBounds_toArray, List.set_cons_zero, List.set_cons_succ]
  refine wpAnyH_one (i := 8) (by kernel_rfl) ?_
  refine wpOp_okN (N := some 5) (v := .bool (!r)) (w1 := w5) rfl rfl rfl (by go_simp) ⟨hS5, ?_⟩
  simp only [Act.put, List.setIfInBounds_toArray, List.set_cons_zero, List.set_cons_succ]
  refine wpAnyH_done (by kernel_rfl) ?_ _
  go_wp2_with fail
  go_ret
  exact ⟨rfl, hb1.trans (hb.mono hb1.size)⟩
end Go.Proofs.Ythkkfkiiopfkjaa.L4
