/- For every input the law CondSigns of the package palinodelaw27 returns true, and each argument reads afterwards as it read before: of a line's number just one of <, = and > holds, the other signs hold as these say; a text is told by its quote, and has each of its parts. Conditions: none beside the row's own. -/
import Derived.Test.YthkkfkiiopfkjaaRows
import Derived.Test.YthkkfkiiopfkjaaCLaw
import Derived.WalkKit
import Derived.ProofKit
import Derived.OpenShut
import Derived.ChangeOld
import Derived.Below
import Derived.Carry
import Derived.SizedLaws
import Derived.HandedShaped
import Derived.ChangeSlices
namespace Go.Proofs.Ythkkfkiiopfkjaa.condSigns
open Go.ChangeShapes Go.WideShapes Go.ChangeAt Go.RowKit
open Go.Proofs.YthkkfkiiopfkjaaW.PrintWords (Kd.C_of_reads Kd.C_nil Kd.C)
set_option linter.unusedVariables false
theorem own : ownKnob Try.prog.godebug = none := by kernel_rfl
theorem laidOut : laidOutB Try.prog = true := by kernel_rfl

theorem u16_nat {n : Int} (h : (Lit.int .u16 n).wf = true) : ∃ k : Nat, n = (k : Int) ∧ k < 65536 := by
  simp only [Lit.wf, Bool.and_eq_true, decide_eq_true_eq] at h
  obtain ⟨h0, h1⟩ := h
  have h0' : (0 : Int) ≤ n := h0
  have h1' : n ≤ 65535 := h1
  exact ⟨n.toNat, by omega, by omega⟩
theorem u8_nat {n : Int} (h : (Lit.int .u8 n).wf = true) : ∃ k : Nat, n = (k : Int) ∧ k < 256 := by
  simp only [Lit.wf, Bool.and_eq_true, decide_eq_true_eq] at h
  obtain ⟨h0, h1⟩ := h
  have h0' : (0 : Int) ≤ n := h0
  have h1' : n ≤ 255 := h1
  exact ⟨n.toNat, by omega, by omega⟩

/-- The law, of any arguments. -/
theorem law_any (x n y z : Nat) (hx : x < 65536) (hn : n < 65536) (hy : y < 256) (hz : z < 256) (A : Option Addr) (l : List Int) (c : Nat) (w : World) (hMx : L4.Mx w) (hc : l.length ≤ c) (hC : Go.Proofs.YthkkfkiiopfkjaaW.PrintWords.Kd.C (Go.Proofs.YthkkfkiiopfkjaaW.PrintWords.Kd.int .u8) w A l.length l) (hl : ∀ v ∈ l, 0 ≤ v ∧ v ≤ 255) :
    Calls Try.prog 3 #[.int .u16 x, .int .u16 n, .slice A l.length c, .int .u8 y, .int .u8 z] w fun e w' => e = .returned (.bool true) ∧ Below w.heap.size w w' := by
  by_cases hk : l.length ≤ 100
  · exact L4.law_main x n y z hx hn hy hz A l c w hMx hk hc hC hl
  · exact L4.law_long x n y z A l.length c w hMx (by omega)

set_option maxRecDepth 100000 in
theorem lifted (os : Os) (started : os.Started) (H : Type) (enc : TypeId × Value → H) :
    ReturnsInHanded {} Try.checked os 3 .any (Rows.condSignsSpec.pre6 enc Try.prog Try.f3 Rows.condSignsRow.domain false) (Rows.condSignsSpec.post enc Try.prog Try.f3 false true false false) := by
  refine returnsInHanded_of_change_shaped (C := Try.checked) own started (by kernel_rfl) Try.func3
    (ChangeSpec.witness6 (enc := enc) (C := Try.checked) false ⟨#[], #[.int .u16 0, .int .u16 0, .slice none 0 0, .int .u8 0, .int .u8 0], []⟩ 8 (by kernel_rfl) (by kernel_rfl) (by kernel_rfl) (by kernel_rfl)) ?_
  intro W base args ds gs before hval0 hW hcnd hsz0 hshape _
  have hval : ∀ (j : Nat) t v, Try.f3.params[j]? = some t → args[j]? = some v → Value.okWide Try.prog W .any base t v := hval0
  have hW' := hW
  obtain ⟨p, q, hA0, hV, rfl, hfz, hnd⟩ := hW
  have hA : DataW.TrodAll enc Try.prog W 0 (fun _ => true) true Try.f3.params.toList args.toList ds p := hA0
  rw [Try.params3] at hA hval
  obtain ⟨v0, vs0, d0, ds0, p0, q0, hargs, rfl, rfl, h0, r0⟩ := trodAll_cons hA
  obtain ⟨v1, vs1, d1, ds1, p1, q1, rfl, rfl, rfl, h1, r1⟩ := trodAll_cons r0
  obtain ⟨v2, vs2, d2, ds2, p2, q2, rfl, rfl, rfl, h2, r2⟩ := trodAll_cons r1
  obtain ⟨v3, vs3, d3, ds3, p3, q3, rfl, rfl, rfl, h3, r3⟩ := trodAll_cons r2
  obtain ⟨v4, vs4, d4, ds4, p4, q4, rfl, rfl, rfl, h4, r4⟩ := trodAll_cons r3
  obtain ⟨rfl, rfl, rfl⟩ := trodAll_nil r4
  obtain rfl : args = #[v0, v1, v2, v3, v4] := by cases args; simp_all
  obtain ⟨rfl, rfl⟩ := trodVars_none hV
  obtain ⟨n0, rfl, rfl, rfl, w0⟩ := open_int Try.underlying22 (hval 0 22 v0 rfl rfl) h0
  obtain ⟨n1, rfl, rfl, rfl, w1⟩ := open_int Try.underlying22 (hval 1 22 v1 rfl rfl) h1
  obtain ⟨a2, len2, cap2, rfl⟩ := okWide_slice Try.underlying23 (hval 2 23 v2 rfl rfl)
  obtain ⟨n3, rfl, rfl, rfl, w3⟩ := open_int Try.underlying5 (hval 3 5 v3 rfl rfl) h3
  obtain ⟨n4, rfl, rfl, rfl, w4⟩ := open_int Try.underlying5 (hval 4 5 v4 rfl rfl) h4
  have lt2 : ∀ x ∈ p2, x.block < W.heap.size := by obtain ⟨m, hm⟩ := h2; exact DataW.trod_lt m _ _ _ hm
  obtain ⟨k0, rfl, z0⟩ := u16_nat w0
  obtain ⟨k1, rfl, z1⟩ := u16_nat w1
  obtain ⟨k3, rfl, z3⟩ := u8_nat w3
  obtain ⟨k4, rfl, z4⟩ := u8_nat w4
  have k2 := h2
  obtain ⟨l, hlen, hcap, hC, hl⟩ : ∃ l : List Int, l.length = len2 ∧ len2 ≤ cap2 ∧ Go.Proofs.YthkkfkiiopfkjaaW.PrintWords.Kd.C (Go.Proofs.YthkkfkiiopfkjaaW.PrintWords.Kd.int .u8) W a2 l.length l ∧ ∀ v ∈ l, 0 ≤ v ∧ v ≤ 255 := by
    obtain ⟨fuel, hf⟩ := h2
    rcases open_ints Try.underlying23 Try.underlying5 (by kernel_rfl) hf with ⟨hcs, _⟩ | ⟨x, ln, c, zs, hcs, _, hll, hm, hz, _, hcell, hwz⟩
    · simp [Value.cells] at hcs
      obtain ⟨rfl, rfl, rfl⟩ := hcs
      exact ⟨[], rfl, Nat.le_refl _, Kd.C_nil _ _, fun _ h => nomatch h⟩
    · simp [Value.cells] at hcs
      obtain ⟨rfl, rfl, rfl⟩ := hcs
      have hz' : zs.length = cap2 := by simpa using hz
      have hl : (zs.take len2).length = len2 := by rw [List.length_take]; omega
      refine ⟨zs.take len2, hl, hll, Kd.C_of_reads (d := (0 : Int)) (h1 := fun _ => rfl) ⟨rfl, ?_, fun _ => ⟨x, rfl, fun i hi => ?_⟩⟩, fun v hv => ?_⟩
      · rw [hl]; have : maxLen ≤ 9223372036854775807 := by simp only [maxLen]; omega
        omega
      · rw [hl] at hi
        rw [hcell i (by omega)]
        congr 2
        simp [List.getD_eq_getElem?_getD, hi]
      · have := hwz v (List.mem_of_mem_take hv)
        obtain ⟨k, rfl, hk⟩ := u8_nat this
        omega
  subst hlen
  have hMx : L4.Mx W := Go.Proofs.cell_of_shapedOpen_int (g := 0) (zero := #[.int .i64 0]) (t := 3) hshape (of_decide_eq_true (by kernel_rfl)) (by kernel_rfl) rfl (by kernel_rfl) (by kernel_rfl) Try.underlying3
  clear hA0 hval0 hsz0
  refine (law_any k0 k1 k3 k4 z0 z1 z3 z4 a2 l cap2 W hMx hcap hC hl).mono fun e W' ⟨he, bel⟩ => ?_
  subst he
  exact ⟨_, rfl, _, _, _, [], _, [], hW', trodAll_mk1 (shut_bool Try.underlying4 _), (trodAll_cons_mk (shut_int Try.underlying22 w0) (trodAll_cons_mk (shut_int Try.underlying22 w1) (trodAll_cons_mk (Below.trod laidOut (by kernel_rfl) (of_decide_eq_true (by kernel_rfl)) k2 bel lt2) (trodAll_cons_mk (shut_int Try.underlying5 w3) (trodAll_cons_mk (shut_int Try.underlying5 w4) trodAll_mk0))))), rfl, bel.frame _, fun h => by cases h⟩
theorem over : Rows.condSignsRow.holds Try.pinned (OpenSpec.ofChange Rows.condSignsSpec) :=
  OpenClaim.holds_of_wide 3 Try.f3 rfl rfl rfl rfl rfl rfl rfl ⟨rfl, rfl, rfl, rfl, rfl⟩ rfl rfl rfl rfl rfl (by kernel_rfl) Try.func3 (by kernel_rfl)
    (of_decide_eq_true (by kernel_rfl)) (by unfold Func.isWrapper; first | (rw [if_pos (by decide +kernel)]; kernel_rfl) | (rw [if_neg (by decide +kernel)]; exact ⟨rfl, rfl⟩))
    (fun os started H enc _ => lifted os started H enc)
theorem proved : Rows.CondSignsSaid := over
#print axioms proved
end Go.Proofs.Ythkkfkiiopfkjaa.condSigns
namespace Go.Proofs.Ythkkfkiiopfkjaa
/-- The row, under a short name, for the claim. -/
theorem condSigns_holds : Rows.CondSignsSaid := condSigns.proved
end Go.Proofs.Ythkkfkiiopfkjaa
