import Derived.Test.YtfoijbcdbcehiaaDoorShow3
import Derived.Deep.RegionHeld3
import Derived.KernelRfl
set_option linter.unusedVariables false
set_option linter.unusedSimpArgs false
namespace Go.Proofs.YtfoijbcdbcehiaaDoor.L4
open Go.RowKit Go.Proofs.YtfoijbcdbcehiaaDoorW.PrintWords

theorem all_listed {l : Array Bool} (hsz : l.size = 42) (pu : ∀ i ∈ [1, 2, 3, 4, 7, 8, 9, 10, 13, 14, 15, 16, 19, 20, 21, 22, 25, 26, 27, 28, 35], l.getD i false = true) (ta : ∀ i ∈ [34, 36, 37, 38, 39, 40, 41], l.getD i true = false)
    (he : l.getD 0 false = true ∧ l.getD 5 false = true ∧ l.getD 11 false = true ∧ l.getD 17 false = true ∧ l.getD 23 false = true ∧ l.getD 29 false = true ∧ l.getD 6 false = true ∧ l.getD 12 false = true ∧ l.getD 18 false = true ∧ l.getD 24 false = true ∧ l.getD 30 false = true ∧ l.getD 31 false = true ∧ l.getD 32 false = true ∧ l.getD 33 false = true) : l = #[true, true, true, true, true, true, true, true, true, true, true, true, true, true, true, true, true, true, true, true, true, true, true, true, true, true, true, true, true, true, true, true, true, true, false, true, false, false, false, false, false, false] := by
  obtain ⟨e0, e5, e11, e17, e23, e29, e6, e12, e18, e24, e30, e31, e32, e33⟩ := he
  apply Array.ext
  · rw [hsz]; rfl
  · intro i h1 h2
    have hi : i < 42 := by omega
    have hg : l[i] = l.getD i false := by simp [Array.getD_eq_getD_getElem?, h1]
    have hg' : l[i] = l.getD i true := by simp [Array.getD_eq_getD_getElem?, h1]
    obtain rfl | rfl | rfl | rfl | rfl | rfl | rfl | rfl | rfl | rfl | rfl | rfl | rfl | rfl | rfl | rfl | rfl | rfl | rfl | rfl | rfl | rfl | rfl | rfl | rfl | rfl | rfl | rfl | rfl | rfl | rfl | rfl | rfl | rfl | rfl | rfl | rfl | rfl | rfl | rfl | rfl | rfl : i = 0 ∨ i = 1 ∨ i = 2 ∨ i = 3 ∨ i = 4 ∨ i = 5 ∨ i = 6 ∨ i = 7 ∨ i = 8 ∨ i = 9 ∨ i = 10 ∨ i = 11 ∨ i = 12 ∨ i = 13 ∨ i = 14 ∨ i = 15 ∨ i = 16 ∨ i = 17 ∨ i = 18 ∨ i = 19 ∨ i = 20 ∨ i = 21 ∨ i = 22 ∨ i = 23 ∨ i = 24 ∨ i = 25 ∨ i = 26 ∨ i = 27 ∨ i = 28 ∨ i = 29 ∨ i = 30 ∨ i = 31 ∨ i = 32 ∨ i = 33 ∨ i = 34 ∨ i = 35 ∨ i = 36 ∨ i = 37 ∨ i = 38 ∨ i = 39 ∨ i = 40 ∨ i = 41 := by omega
    · rw [hg, e0]; rfl
    · rw [hg, pu 1 (by simp)]; rfl
    · rw [hg, pu 2 (by simp)]; rfl
    · rw [hg, pu 3 (by simp)]; rfl
    · rw [hg, pu 4 (by simp)]; rfl
    · rw [hg, e5]; rfl
    · rw [hg, e6]; rfl
    · rw [hg, pu 7 (by simp)]; rfl
    · rw [hg, pu 8 (by simp)]; rfl
    · rw [hg, pu 9 (by simp)]; rfl
    · rw [hg, pu 10 (by simp)]; rfl
    · rw [hg, e11]; rfl
    · rw [hg, e12]; rfl
    · rw [hg, pu 13 (by simp)]; rfl
    · rw [hg, pu 14 (by simp)]; rfl
    · rw [hg, pu 15 (by simp)]; rfl
    · rw [hg, pu 16 (by simp)]; rfl
    · rw [hg, e17]; rfl
    · rw [hg, e18]; rfl
    · rw [hg, pu 19 (by simp)]; rfl
    · rw [hg, pu 20 (by simp)]; rfl
    · rw [hg, pu 21 (by simp)]; rfl
    · rw [hg, pu 22 (by simp)]; rfl
    · rw [hg, e23]; rfl
    · rw [hg, e24]; rfl
    · rw [hg, pu 25 (by simp)]; rfl
    · rw [hg, pu 26 (by simp)]; rfl
    · rw [hg, pu 27 (by simp)]; rfl
    · rw [hg, pu 28 (by simp)]; rfl
    · rw [hg, e29]; rfl
    · rw [hg, e30]; rfl
    · rw [hg, e31]; rfl
    · rw [hg, e32]; rfl
    · rw [hg, e33]; rfl
    · rw [hg', ta 34 (by simp)]; rfl
    · rw [hg, pu 35 (by simp)]; rfl
    · rw [hg', ta 36 (by simp)]; rfl
    · rw [hg', ta 37 (by simp)]; rfl
    · rw [hg', ta 38 (by simp)]; rfl
    · rw [hg', ta 39 (by simp)]; rfl
    · rw [hg', ta 40 (by simp)]; rfl
    · rw [hg', ta 41 (by simp)]; rfl

theorem run_lookup_what {P : Program} {o : Oper} {a : Act} {w : World} {t : TypeId} {m k : Operand} {v : Value} (hop : o.op = .lookup t m k true) (hrun : (Instr.lookup t (a.eval m) (a.eval k) true).run P w = .ok v w) : (execOp a.eval o).run P w = .ok (.value v) w := by
  simp [execOp, hop, hrun, Result.andThen]

def NoKey (q : List UInt8) : Prop := q ≠ k_pattern ∧ q ≠ k_hold ∧ q ≠ k_rest ∧ q ≠ k_out ∧ q ≠ k_place ∧ q ≠ k_regs ∧ q ≠ k_waits ∧ q ≠ k_files
theorem shF_none {t15 t20 t25 t30 t35 : Value} {q : List UInt8} (h : shF true true true true true true true true t15 t20 t25 t30 t35 q = none) : NoKey q := by
  refine ⟨?_, ?_, ?_, ?_, ?_, ?_, ?_, ?_⟩
  all_goals
    rintro rfl
    revert h
    simp [shF, k_pattern, k_hold, k_rest, k_out, k_place, k_regs, k_waits, k_files]

theorem shF_some {A0 A1 A2 A3 A4 : Option Addr} {n0 n1 n2 n3 n4 c0 c1 c2 c3 c4 : Nat} {w : World} {t15 t20 t25 t30 t35 v : Value} {q : List UInt8} (h0 : Clo A0 n0 c0 t15 w) (h1 : Clo A1 n1 c1 t20 w) (h2 : Clo A2 n2 c2 t25 w) (h3 : Clo A3 n3 c3 t30 w) (h4 : Clo A4 n4 c4 t35 w)
    (h : shF true true true true true true true true t15 t20 t25 t30 t35 q = some v) :
    (∃ b, v = .func (Fn.func 18) #[] #[.pointer (some ⟨b, 0, none⟩)]) ∨ v = .func (Fn.func 20) #[] #[] ∨ v = .func (Fn.func 21) #[] #[] ∨ v = .func (Fn.func 22) #[] #[] := by
  obtain ⟨b0, e0, _⟩ := h0
  obtain ⟨b1, e1, _⟩ := h1
  obtain ⟨b2, e2, _⟩ := h2
  obtain ⟨b3, e3, _⟩ := h3
  obtain ⟨b4, e4, _⟩ := h4
  subst e0 e1 e2 e3 e4
  unfold shF at h
  split at h
  · exact .inl ⟨b0, (Option.some.inj h).symm⟩
  split at h
  · exact .inl ⟨b1, (Option.some.inj h).symm⟩
  split at h
  · exact .inl ⟨b2, (Option.some.inj h).symm⟩
  split at h
  · exact .inl ⟨b3, (Option.some.inj h).symm⟩
  split at h
  · exact .inl ⟨b4, (Option.some.inj h).symm⟩
  split at h
  · exact .inr (.inl (Option.some.inj h).symm)
  split at h
  · exact .inr (.inr (.inl (Option.some.inj h).symm))
  split at h
  · exact .inr (.inr (.inr (Option.some.inj h).symm))
  cases h

/-- what the lookup gives -/
def gotF (v : Option Value) : Value := match v with | some v => .tuple #[v, .bool true] | none => .tuple #[.nilFunc, .bool false]

set_option maxRecDepth 100000 in
set_option maxHeartbeats 4000000 in
/-- view.Show, up to where its table has been looked into. -/
theorem show_upto (s : Sv) (what : ByteArray) (w : World) (ht : Tb w) (hw : what.size ≤ 9223372036854775807) (R : Ending → World → Prop)
    (hnone : ∀ w1 : World, Tb w1 → Below w.heap.size w w1 → NoKey what.data.toList → R (.returned (.tuple #[.slice none 0 0, .bool false])) w1)
    (hsome : ∀ (w1 : World) (t15 t20 t25 t30 t35 v : Value), Tb w1 → Below w.heap.size w w1 → InB s w.heap.size w1 → Clo s.a0 s.l0.length s.c0 t15 w1 → Clo s.a1 s.l1.length s.c1 t20 w1 → Clo s.a10 s.l10.length s.c10 t25 w1 → Clo s.a11 s.l11.length s.c11 t30 w1 → Clo s.a13 s.l13.length s.c13 t35 w1 →
      shF true true true true true true true true t15 t20 t25 t30 t35 what.data.toList = some v → ∃ fn caps, v = .func (.func fn) #[] caps ∧ Calls Tryd.prog fn (s.v :: caps.toList).toArray w1 fun e w2 => ∃ u, e = .returned u ∧ R (.returned (.tuple #[u, .bool true])) w2) :
    Calls Tryd.prog 8 #[s.v, .string what] w R := by
  have HI := InB.new s w
  have HT := ht.alloc (.cells s.cells 34)
  have HB := (Below.refl w.heap.size w).alloc (Nat.le_refl _) (.cells s.cells 34)
  have hsz : w.heap.size < (w.alloc (.cells s.cells 34)).heap.size := by simp
  have hc0 : (w.alloc (.cells s.cells 34)).cell? ⟨w.heap.size, 0, none⟩ = some (.slice s.a0 s.l0.length s.c0) := HI.cell 0
  have hc1 : (w.alloc (.cells s.cells 34)).cell? ⟨w.heap.size, 1, none⟩ = some (.slice s.a1 s.l1.length s.c1) := HI.cell 1
  have hc10 : (w.alloc (.cells s.cells 34)).cell? ⟨w.heap.size, 10, none⟩ = some (.slice s.a10 s.l10.length s.c10) := HI.cell 10
  have hc11 : (w.alloc (.cells s.cells 34)).cell? ⟨w.heap.size, 11, none⟩ = some (.slice s.a11 s.l11.length s.c11) := HI.cell 11
  have hc13 : (w.alloc (.cells s.cells 34)).cell? ⟨w.heap.size, 13, none⟩ = some (.slice s.a13 s.l13.length s.c13) := HI.cell 13
  have HN := Lib.hid hnone
  have HS := Lib.hid hsome
  clear hnone hsome
  unfold Sv.v at HS
  unfold Sv.v
  generalize hcs : s.cells = cs at *
  have HCS := Lib.hid hcs
  clear hcs
  go_enter Tryd.func8, Tryd.ntmps8
  go_wp2_with fail
  generalize w.alloc (.cells cs 34) = w1 at *
  generalize w.heap.size = B at *
  refine wp_region_held (S := shS s B) (by kernel_rfl) ?_
  have hS : shS s B { w1 with drawn := w1.drawn + 1 } := ⟨hc0, hc1, hc10, hc11, hc13⟩
  refine take_ (i := 1) (N := some 11) (oi := _) (v := ?v1) rfl rfl (by kernel_rfl) (by kernel_rfl) (by kernel_rfl) (fun _ _ _ h => h) (Or.inl ⟨by rfl, ?y1⟩) hS ?r1
  case y1 => (intro w hSw; (unfold shS at hSw); go_simp; try with_reducible rfl)
  simp only [Act.put, List.setIfInBounds_toArray, List.set_cons_zero, List.set_cons_succ]
  refine take_ (i := 2) (N := some 12) (oi := _) (v := ?v2) rfl rfl (by kernel_rfl) (by kernel_rfl) (by kernel_rfl) (fun _ _ _ h => h) (Or.inl ⟨by rfl, ?y2⟩) hS ?r2
  case y2 => (intro w hSw; (unfold shS at hSw); go_simp; try with_reducible rfl)
  simp only [Act.put, List.setIfInBounds_toArray, List.set_cons_zero, List.set_cons_succ]
  refine take_ (i := 3) (N := some 13) (oi := _) (v := ?v3) rfl rfl (by kernel_rfl) (by kernel_rfl) (by kernel_rfl) (fun _ _ _ h => h) (Or.inl ⟨by rfl, ?y3⟩) hS ?r3
  case y3 => (intro w hSw; (unfold shS at hSw); go_simp; try with_reducible rfl)
  simp only [Act.put, List.setIfInBounds_toArray, List.set_cons_zero, List.set_cons_succ]
  refine take_ (i := 4) (N := some 14) (oi := _) (v := ?v4) rfl rfl (by kernel_rfl) (by kernel_rfl) (by kernel_rfl) (fun _ _ _ h => h) (Or.inl ⟨by rfl, ?y4⟩) hS ?r4
  case y4 => (intro w hSw; (unfold shS at hSw); go_simp; try with_reducible rfl)
  simp only [Act.put, List.setIfInBounds_toArray, List.set_cons_zero, List.set_cons_succ]
  refine take_ (i := 7) (N := some 16) (oi := _) (v := ?v7) rfl rfl (by kernel_rfl) (by kernel_rfl) (by kernel_rfl) (fun _ _ _ h => h) (Or.inl ⟨by rfl, ?y7⟩) hS ?r7
  case y7 => (intro w hSw; (unfold shS at hSw); go_simp; try with_reducible rfl)
  simp only [Act.put, List.setIfInBounds_toArray, List.set_cons_zero, List.set_cons_succ]
  refine take_ (i := 8) (N := some 17) (oi := _) (v := ?v8) rfl rfl (by kernel_rfl) (by kernel_rfl) (by kernel_rfl) (fun _ _ _ h => h) (Or.inl ⟨by rfl, ?y8⟩) hS ?r8
  case y8 => (intro w hSw; (unfold shS at hSw); go_simp; try with_reducible rfl)
  simp only [Act.put, List.setIfInBounds_toArray, List.set_cons_zero, List.set_cons_succ]
  refine take_ (i := 9) (N := some 18) (oi := _) (v := ?v9) rfl rfl (by kernel_rfl) (by kernel_rfl) (by kernel_rfl) (fun _ _ _ h => h) (Or.inl ⟨by rfl, ?y9⟩) hS ?r9
  case y9 => (intro w hSw; (unfold shS at hSw); go_simp; try with_reducible rfl)
  simp only [Act.put, List.setIfInBounds_toArray, List.set_cons_zero, List.set_cons_succ]
  refine take_ (i := 10) (N := some 19) (oi := _) (v := ?v10) rfl rfl (by kernel_rfl) (by kernel_rfl) (by kernel_rfl) (fun _ _ _ h => h) (Or.inl ⟨by rfl, ?y10⟩) hS ?r10
  case y10 => (intro w hSw; (unfold shS at hSw); go_simp; try with_reducible rfl)
  simp only [Act.put, List.setIfInBounds_toArray, List.set_cons_zero, List.set_cons_succ]
  refine take_ (i := 13) (N := some 21) (oi := _) (v := ?v13) rfl rfl (by kernel_rfl) (by kernel_rfl) (by kernel_rfl) (fun _ _ _ h => h) (Or.inl ⟨by rfl, ?y13⟩) hS ?r13
  case y13 => (intro w hSw; (unfold shS at hSw); go_simp; try with_reducible rfl)
  simp only [Act.put, List.setIfInBounds_toArray, List.set_cons_zero, List.set_cons_succ]
  refine take_ (i := 14) (N := some 22) (oi := _) (v := ?v14) rfl rfl (by kernel_rfl) (by kernel_rfl) (by kernel_rfl) (fun _ _ _ h => h) (Or.inl ⟨by rfl, ?y14⟩) hS ?r14
  case y14 => (intro w hSw; (unfold shS at hSw); go_simp; try with_reducible rfl)
  simp only [Act.put, List.setIfInBounds_toArray, List.set_cons_zero, List.set_cons_succ]
  refine take_ (i := 15) (N := some 23) (oi := _) (v := ?v15) rfl rfl (by kernel_rfl) (by kernel_rfl) (by kernel_rfl) (fun _ _ _ h => h) (Or.inl ⟨by rfl, ?y15⟩) hS ?r15
  case y15 => (intro w hSw; (unfold shS at hSw); go_simp; try with_reducible rfl)
  simp only [Act.put, List.setIfInBounds_toArray, List.set_cons_zero, List.set_cons_succ]
  refine take_ (i := 16) (N := some 24) (oi := _) (v := ?v16) rfl rfl (by kernel_rfl) (by kernel_rfl) (by kernel_rfl) (fun _ _ _ h => h) (Or.inl ⟨by rfl, ?y16⟩) hS ?r16
  case y16 => (intro w hSw; (unfold shS at hSw); go_simp; try with_reducible rfl)
  simp only [Act.put, List.setIfInBounds_toArray, List.set_cons_zero, List.set_cons_succ]
  refine take_ (i := 19) (N := some 26) (oi := _) (v := ?v19) rfl rfl (by kernel_rfl) (by kernel_rfl) (by kernel_rfl) (fun _ _ _ h => h) (Or.inl ⟨by rfl, ?y19⟩) hS ?r19
  case y19 => (intro w hSw; (unfold shS at hSw); go_simp; try with_reducible rfl)
  simp only [Act.put, List.setIfInBounds_toArray, List.set_cons_zero, List.set_cons_succ]
  refine take_ (i := 20) (N := some 27) (oi := _) (v := ?v20) rfl rfl (by kernel_rfl) (by kernel_rfl) (by kernel_rfl) (fun _ _ _ h => h) (Or.inl ⟨by rfl, ?y20⟩) hS ?r20
  case y20 => (intro w hSw; (unfold shS at hSw); go_simp; try with_reducible rfl)
  simp only [Act.put, List.setIfInBounds_toArray, List.set_cons_zero, List.set_cons_succ]
  refine take_ (i := 21) (N := some 28) (oi := _) (v := ?v21) rfl rfl (by kernel_rfl) (by kernel_rfl) (by kernel_rfl) (fun _ _ _ h => h) (Or.inl ⟨by rfl, ?y21⟩) hS ?r21
  case y21 => (intro w hSw; (unfold shS at hSw); go_simp; try with_reducible rfl)
  simp only [Act.put, List.setIfInBounds_toArray, List.set_cons_zero, List.set_cons_succ]
  refine take_ (i := 22) (N := some 29) (oi := _) (v := ?v22) rfl rfl (by kernel_rfl) (by kernel_rfl) (by kernel_rfl) (fun _ _ _ h => h) (Or.inl ⟨by rfl, ?y22⟩) hS ?r22
  case y22 => (intro w hSw; (unfold shS at hSw); go_simp; try with_reducible rfl)
  simp only [Act.put, List.setIfInBounds_toArray, List.set_cons_zero, List.set_cons_succ]
  refine take_ (i := 25) (N := some 31) (oi := _) (v := ?v25) rfl rfl (by kernel_rfl) (by kernel_rfl) (by kernel_rfl) (fun _ _ _ h => h) (Or.inl ⟨by rfl, ?y25⟩) hS ?r25
  case y25 => (intro w hSw; (unfold shS at hSw); go_simp; try with_reducible rfl)
  simp only [Act.put, List.setIfInBounds_toArray, List.set_cons_zero, List.set_cons_succ]
  refine take_ (i := 26) (N := some 32) (oi := _) (v := ?v26) rfl rfl (by kernel_rfl) (by kernel_rfl) (by kernel_rfl) (fun _ _ _ h => h) (Or.inl ⟨by rfl, ?y26⟩) hS ?r26
  case y26 => (intro w hSw; (unfold shS at hSw); go_simp; try with_reducible rfl)
  simp only [Act.put, List.setIfInBounds_toArray, List.set_cons_zero, List.set_cons_succ]
  refine take_ (i := 27) (N := some 33) (oi := _) (v := ?v27) rfl rfl (by kernel_rfl) (by kernel_rfl) (by kernel_rfl) (fun _ _ _ h => h) (Or.inl ⟨by rfl, ?y27⟩) hS ?r27
  case y27 => (intro w hSw; (unfold shS at hSw); go_simp; try with_reducible rfl)
  simp only [Act.put, List.setIfInBounds_toArray, List.set_cons_zero, List.set_cons_succ]
  refine take_ (i := 28) (N := some 34) (oi := _) (v := ?v28) rfl rfl (by kernel_rfl) (by kernel_rfl) (by kernel_rfl) (fun _ _ _ h => h) (Or.inl ⟨by rfl, ?y28⟩) hS ?r28
  case y28 => (intro w hSw; (unfold shS at hSw); go_simp; try with_reducible rfl)
  simp only [Act.put, List.setIfInBounds_toArray, List.set_cons_zero, List.set_cons_succ]
  refine take_ (i := 35) (N := some 37) (oi := _) (v := ?v35) rfl rfl (by kernel_rfl) (by kernel_rfl) (by kernel_rfl) (fun _ _ _ h => h) (Or.inl ⟨by rfl, ?y35⟩) hS ?r35
  case y35 => (intro w hSw; (unfold shS at hSw); go_simp; try with_reducible rfl)
  simp only [Act.put, List.setIfInBounds_toArray, List.set_cons_zero, List.set_cons_succ]
  refine sh_region (w0 := w) ?ho ?start ?tail
  case ho => constructor <;> first | exact at_of (by kernel_rfl) | kernel_rfl
  case start =>
    exact { sz := by rfl, fu := by rfl, pu := by decide, ta := by decide,
            d6_0 := by intro h; exact absurd h (by decide), d6_5 := by intro h; exact absurd h (by decide), d12_0 := by intro h; exact absurd h (by decide), d12_11 := by intro h; exact absurd h (by decide), d18_0 := by intro h; exact absurd h (by decide), d18_17 := by intro h; exact absurd h (by decide), d24_0 := by intro h; exact absurd h (by decide), d24_23 := by intro h; exact absurd h (by decide), d30_0 := by intro h; exact absurd h (by decide), d30_29 := by intro h; exact absurd h (by decide), d31_0 := by intro h; exact absurd h (by decide), d32_0 := by intro h; exact absurd h (by decide), d33_0 := by intro h; exact absurd h (by decide),
            c5 := by intro h; exact absurd h (by decide), c11 := by intro h; exact absurd h (by decide), c17 := by intro h; exact absurd h (by decide), c23 := by intro h; exact absurd h (by decide), c29 := by intro h; exact absurd h (by decide),
            mp := by intro h; exact absurd h (by decide), hs := hS, tb := HT.drew, be := below_drew HB, ib := HI, lt := hsz }
  case tail =>
    intro fuel l t10 t15 t20 t25 t30 t35 w2 hj hE
    obtain rfl := all_listed hj.sz hj.pu hj.ta hE
    obtain rfl : fuel = 6 := by have := hj.fu; simp at this; omega
    clear hE
    obtain ⟨m, n, rfl, e2, e3, e4⟩ := hj.mp (by rfl)
    have e5 := e4.congr (g := shF true true true true true true true true t15 t20 t25 t30 t35) (fun q => rfl)
    have hl := e5.look Tryd.underlying9 Tryd.underlying55 (z := .nilFunc) (by kernel_rfl) what hw
    have k5 := hj.c5 (by rfl)
    have k11 := hj.c11 (by rfl)
    have k17 := hj.c17 (by rfl)
    have k23 := hj.c23 (by rfl)
    have k29 := hj.c29 (by rfl)
    have hS2 := hj.hs
    have hT2 := hj.tb
    have hB2 := hj.be
    have hI2 := hj.ib
    have hl2 := hj.lt
    clear hj e4 e5
    unfold shFr
    refine take_ (i := 34) (N := some 36) (oi := _) (v := ?v34) rfl rfl (by kernel_rfl) (by kernel_rfl) (by kernel_rfl) (fun _ _ _ h => h) (Or.inl ⟨by rfl, ?y34⟩) hS2 ?r34
    case y34 => (intro w hSw; (unfold shS at hSw); go_simp; try with_reducible rfl)
    simp only [Act.put, List.setIfInBounds_toArray, List.set_cons_zero, List.set_cons_succ]
    refine wpAnyH_one (i := 36) (by kernel_rfl) ?_
    refine wpOp_ok (w1 := w2) (v := match shF true true true true true true true true t15 t20 t25 t30 t35 what.data.toList with | some v => .tuple #[v, .bool true] | none => .tuple #[.nilFunc, .bool false]) rfl rfl (run_lookup_what rfl hl) ⟨hS2, ?_⟩
    have HL := Lib.hid hl
    clear hl
    cases hv : shF true true true true true true true true t15 t20 t25 t30 t35 what.data.toList with
    | none =>
      simp only [Act.put, List.setIfInBounds_toArray, List.set_cons_zero, List.set_cons_succ]
      refine take_ (i := 37) (N := some 9) (oi := _) (v := ?_) rfl rfl (by kernel_rfl) (by kernel_rfl) (by kernel_rfl) (fun _ _ _ h => h) (Or.inl ⟨by rfl, ?_⟩) hS2 ?_
      rotate_left
      · (intro w hSw; (unfold shS at hSw); go_simp; try with_reducible rfl)
      simp only [Act.put, List.setIfInBounds_toArray, List.set_cons_zero, List.set_cons_succ]
      refine take_ (i := 38) (N := some 39) (oi := _) (v := ?_) rfl rfl (by kernel_rfl) (by kernel_rfl) (by kernel_rfl) (fun _ _ _ h => h) (Or.inl ⟨by rfl, ?_⟩) hS2 ?_
      rotate_left
      · (intro w hSw; (unfold shS at hSw); go_simp; try with_reducible rfl)
      simp only [Act.put, List.setIfInBounds_toArray, List.set_cons_zero, List.set_cons_succ]
      refine take_ (i := 39) (N := some 40) (oi := _) (v := ?_) rfl rfl (by kernel_rfl) (by kernel_rfl) (by kernel_rfl) (fun _ _ _ h => h) (Or.inl ⟨by rfl, ?_⟩) hS2 ?_
      rotate_left
      · (intro w hSw; (unfold shS at hSw); go_simp; try with_reducible rfl)
      simp only [Act.put, List.setIfInBounds_toArray, List.set_cons_zero, List.set_cons_succ]
      refine take_ (i := 40) (N := some 7) (oi := _) (v := ?_) rfl rfl (by kernel_rfl) (by kernel_rfl) (by kernel_rfl) (fun _ _ _ h => h) (Or.inl ⟨by rfl, ?_⟩) hS2 ?_
      rotate_left
      · (intro w hSw; (unfold shS at hSw); go_simp; try with_reducible rfl)
      simp only [Act.put, List.setIfInBounds_toArray, List.set_cons_zero, List.set_cons_succ]
      refine take_ (i := 41) (N := some 8) (oi := _) (v := ?_) rfl rfl (by kernel_rfl) (by kernel_rfl) (by kernel_rfl) (fun _ _ _ h => h) (Or.inl ⟨by rfl, ?_⟩) hS2 ?_
      rotate_left
      · (intro w hSw; (unfold shS at hSw); go_simp; try with_reducible rfl)
      simp only [Act.put, List.setIfInBounds_toArray, List.set_cons_zero, List.set_cons_succ]
      refine wpAnyH_done (by kernel_rfl) ?_ _
      clear hS2
      go_wp2_with fail
      exact HN.out w2 hT2 hB2 (by have := hv; exact shF_none hv)
    | some v =>
      have HV := Lib.hid hv
      clear hv
      simp only [Act.put, List.setIfInBounds_toArray, List.set_cons_zero, List.set_cons_succ]
      refine take_ (i := 37) (N := some 9) (oi := _) (v := ?_) rfl rfl (by kernel_rfl) (by kernel_rfl) (by kernel_rfl) (fun _ _ _ h => h) (Or.inl ⟨by rfl, ?_⟩) hS2 ?_
      rotate_left
      · (intro w hSw; (unfold shS at hSw); go_simp; try with_reducible rfl)
      simp only [Act.put, List.setIfInBounds_toArray, List.set_cons_zero, List.set_cons_succ]
      refine take_ (i := 38) (N := some 39) (oi := _) (v := ?_) rfl rfl (by kernel_rfl) (by kernel_rfl) (by kernel_rfl) (fun _ _ _ h => h) (Or.inl ⟨by rfl, ?_⟩) hS2 ?_
      rotate_left
      · (intro w hSw; (unfold shS at hSw); go_simp; try with_reducible rfl)
      simp only [Act.put, List.setIfInBounds_toArray, List.set_cons_zero, List.set_cons_succ]
      refine take_ (i := 39) (N := some 40) (oi := _) (v := ?_) rfl rfl (by kernel_rfl) (by kernel_rfl) (by kernel_rfl) (fun _ _ _ h => h) (Or.inl ⟨by rfl, ?_⟩) hS2 ?_
      rotate_left
      · (intro w hSw; (unfold shS at hSw); go_simp; try with_reducible rfl)
      simp only [Act.put, List.setIfInBounds_toArray, List.set_cons_zero, List.set_cons_succ]
      refine take_ (i := 40) (N := some 7) (oi := _) (v := ?_) rfl rfl (by kernel_rfl) (by kernel_rfl) (by kernel_rfl) (fun _ _ _ h => h) (Or.inl ⟨by rfl, ?_⟩) hS2 ?_
      rotate_left
      · (intro w hSw; (unfold shS at hSw); go_simp; try with_reducible rfl)
      simp only [Act.put, List.setIfInBounds_toArray, List.set_cons_zero, List.set_cons_succ]
      refine take_ (i := 41) (N := some 8) (oi := _) (v := ?_) rfl rfl (by kernel_rfl) (by kernel_rfl) (by kernel_rfl) (fun _ _ _ h => h) (Or.inl ⟨by rfl, ?_⟩) hS2 ?_
      rotate_left
      · (intro w hSw; (unfold shS at hSw); go_simp; try with_reducible rfl)
      simp only [Act.put, List.setIfInBounds_toArray, List.set_cons_zero, List.set_cons_succ]
      refine wpAnyH_done (by kernel_rfl) ?_ _
      clear hS2
      obtain ⟨fn, caps, hfn, hcall⟩ := HS.out w2 t15 t20 t25 t30 t35 v hT2 hB2 hI2 k5 k11 k17 k23 k29 HV.out
      have hcase := shF_some k5 k11 k17 k23 k29 HV.out
      have hrow := hI2
      unfold InB at hrow
      rw [HCS.out] at hrow
      have HR := Lib.hid hrow
      have hz : (Tryd.prog.info? 34).map (·.size) = some cs.size := by rw [← HCS.out]; kernel_rfl
      have HZ := Lib.hid hz
      clear hz
      clear hrow k5 k11 k17 k23 k29 HV HL HS HN
      rcases hcase with ⟨b, hv⟩ | hv | hv | hv
      all_goals
        rw [hv] at hfn
        cases hfn
        subst hv
        have HC := Lib.hid hcall
        clear hcall
        go_wp2_with (first
          | ((with_reducible refine gate_dst (N := 44) rfl ?_); refine wpList_load_row rfl 34 (.tmp 2) rfl B rfl 34 cs (0, 0) _ HR.out Tryd.underlying34 rfl HZ.out ?_)
          | (refine (HC.out).mono ?_; rintro e w3 ⟨u, rfl, hR⟩))
        exact hR
end Go.Proofs.YtfoijbcdbcehiaaDoor.L4
