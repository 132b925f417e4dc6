import Derived.Test.YtfoijbcdbcehiaaDoorPViewStatesx1
import Derived.Test.YtfoijbcdbcehiaaDoorTable
set_option linter.unusedVariables false
namespace Go.Proofs.YtfoijbcdbcehiaaDoor.L4
open Go.RowKit Go.Proofs.YtfoijbcdbcehiaaDoorW.PrintWords Go.Proofs.YtfoijbcdbcehiaaDoor.PViewStates

/-- what the form's reach gives: nothing is longer than 2^47 -/
structure Lim (s : Sv) : Prop where
  l0 : s.l0.length ≤ 140737488351232
  l1 : s.l1.length ≤ 140737488351232
  l10 : s.l10.length ≤ 140737488351232
  l11 : s.l11.length ≤ 140737488351232
  l13 : s.l13.length ≤ 140737488351232
  l23 : s.l23.length ≤ 140737488351232
  l26 : s.l26.length ≤ 140737488351232
  w24 : ∀ x ∈ s.l24, x.f1.length ≤ 140737488351232
  w25 : ∀ x ∈ s.l25, x.f1.length ≤ 140737488351232 ∧ x.f0.size ≤ 140737488351232
def wsum (l : List Wt) : Nat := (l.map fun x => x.f1.length).sum
def fsum (l : List Fl) : Nat := (l.map fun x => x.f1.length + x.f0.size).sum
theorem wsum_mem {l : List Wt} {x : Wt} (h : x ∈ l) : x.f1.length ≤ wsum l := by
  induction l with
  | nil => cases h
  | cons y l ih =>
    simp only [wsum, List.map_cons, List.sum_cons]
    rcases List.mem_cons.1 h with rfl | h
    · omega
    · have := ih h; simp only [wsum] at this; omega
theorem fsum_mem {l : List Fl} {x : Fl} (h : x ∈ l) : x.f1.length + x.f0.size ≤ fsum l := by
  induction l with
  | nil => cases h
  | cons y l ih =>
    simp only [fsum, List.map_cons, List.sum_cons]
    rcases List.mem_cons.1 h with rfl | h
    · omega
    · have := ih h; simp only [fsum] at this; omega
theorem wsum_drop {l : List Wt} {i : Nat} (h : i < l.length) : wsum (l.drop i) = l[i].f1.length + wsum (l.drop (i + 1)) := by
  rw [List.drop_eq_getElem_cons h]; rfl
theorem fsum_drop {l : List Fl} {i : Nat} (h : i < l.length) : fsum (l.drop i) = (l[i].f1.length + l[i].f0.size) + fsum (l.drop (i + 1)) := by
  rw [List.drop_eq_getElem_cons h]; rfl
theorem wrap_nat (i j : Nat) (hi : i ≤ 1000000000000000000) (hj : j ≤ 1000000000000000000) : wrap64 ((i : Int) + (j : Int)) = ((i + j : Nat) : Int) := by
  rw [wrap64_id (by omega) (by omega)]; omega

theorem great_l1 (s : Sv) (hl : Lim s) (hn : s.l25.length ≤ 20) (d : Nat) : ∀ (k i acc : Nat), i ≤ s.l25.length → s.l25.length - i = d → d < k → acc + d * 281474976702464 ≤ 100000000000000000 →
    palinoderef20_Great.l1 k (acc : Int) (i : Int) s.l0 s.l1 s.x2 s.x3 s.x4 s.x5 s.x6 s.x7 s.x8 s.x9 s.l10 s.l11 s.x12 s.l13 s.x14 s.x15 s.x16 s.x17 s.x18 s.x19 s.x20 s.x21 s.x22 s.l23 s.l24 s.l25 s.l26 = some (decide (acc + fsum (s.l25.drop i) > 2000)) := by
  induction d with
  | zero =>
    intro k i acc hi hd hk ha
    obtain ⟨k, rfl⟩ : ∃ m, k = m + 1 := ⟨k - 1, by omega⟩
    obtain rfl : i = s.l25.length := by omega
    simp only [palinoderef20_Great.l1]
    rw [if_neg (by omega), List.drop_length]
    congr 1
    apply Bool.eq_iff_iff.2
    simp only [decide_eq_true_eq, fsum, List.map_nil, List.sum_nil]
    omega
  | succ d ih =>
    intro k i acc hi hd hk ha
    obtain ⟨k, rfl⟩ : ∃ m, k = m + 1 := ⟨k - 1, by omega⟩
    have hlt : i < s.l25.length := by omega
    have hrd : rd_T43 s.l25 i = s.l25[i] := by simp [rd_T43, List.getD_eq_getElem?_getD, List.getElem?_eq_getElem hlt]
    obtain ⟨b1, b2⟩ := hl.w25 _ (List.getElem_mem hlt)
    have hdrop := fsum_drop hlt
    simp only [palinoderef20_Great.l1]
    rw [if_pos (by omega), if_pos (by omega), hrd]
    generalize s.l25[i] = x at *
    rw [wrap_nat _ _ (by omega) (by omega), wrap_nat _ _ (by omega) (by omega), wrap_succ i (by omega), ih k (i + 1) _ (by omega) (by omega) (by omega) (by omega), hdrop]
    congr 1
    apply Bool.eq_iff_iff.2
    simp only [decide_eq_true_eq]
    omega
theorem great_l0z (s : Sv) (hl : Lim s) (hn : s.l25.length ≤ 20) (k acc : Nat) (hk : 100 < k) (ha : acc ≤ 90000000000000000) :
    palinoderef20_Great.l0 k (acc : Int) (s.l24.length : Int) s.l0 s.l1 s.x2 s.x3 s.x4 s.x5 s.x6 s.x7 s.x8 s.x9 s.l10 s.l11 s.x12 s.l13 s.x14 s.x15 s.x16 s.x17 s.x18 s.x19 s.x20 s.x21 s.x22 s.l23 s.l24 s.l25 s.l26 = some (decide (acc + fsum s.l25 > 2000)) := by
  obtain ⟨k, rfl⟩ : ∃ m, k = m + 1 := ⟨k - 1, by omega⟩
  simp only [palinoderef20_Great.l0]
  rw [if_neg (by omega)]
  have h := great_l1 s hl hn s.l25.length k 0 acc (Nat.zero_le _) rfl (by omega) (by omega)
  simp only [Int.natCast_zero] at h
  rw [h, List.drop_zero]
theorem great_l0 (s : Sv) (hl : Lim s) (hn : s.l25.length ≤ 20) (hn' : s.l24.length ≤ 40) (d : Nat) : ∀ (k i acc : Nat), i ≤ s.l24.length → s.l24.length - i = d → d + 100 < k → acc + d * 140737488351232 ≤ 90000000000000000 →
    palinoderef20_Great.l0 k (acc : Int) (i : Int) s.l0 s.l1 s.x2 s.x3 s.x4 s.x5 s.x6 s.x7 s.x8 s.x9 s.l10 s.l11 s.x12 s.l13 s.x14 s.x15 s.x16 s.x17 s.x18 s.x19 s.x20 s.x21 s.x22 s.l23 s.l24 s.l25 s.l26 = some (decide (acc + wsum (s.l24.drop i) + fsum s.l25 > 2000)) := by
  induction d with
  | zero =>
    intro k i acc hi hd hk ha
    obtain rfl : i = s.l24.length := by omega
    rw [great_l0z s hl hn k acc (by omega) (by omega), List.drop_length, show wsum ([] : List Wt) = 0 from rfl, Nat.add_zero]
  | succ d ih =>
    intro k i acc hi hd hk ha
    obtain ⟨k, rfl⟩ : ∃ m, k = m + 1 := ⟨k - 1, by omega⟩
    have hlt : i < s.l24.length := by omega
    have hrd : rd_T48 s.l24 i = s.l24[i] := by simp [rd_T48, List.getD_eq_getElem?_getD, List.getElem?_eq_getElem hlt]
    have b1 := hl.w24 _ (List.getElem_mem hlt)
    have hdrop := wsum_drop hlt
    simp only [palinoderef20_Great.l0]
    rw [if_pos (by omega), if_pos (by omega), hrd]
    generalize s.l24[i] = x at *
    rw [wrap_nat _ _ (by omega) (by omega), wrap_succ i (by omega), ih k (i + 1) _ (by omega) (by omega) (by omega) (by omega), hdrop]
    congr 1
    apply Bool.eq_iff_iff.2
    simp only [decide_eq_true_eq]
    omega
theorem great_j0 (s : Sv) (k : Nat) (n : Int) : palinoderef20_Great.j0 (k + 1) n true s.l0 s.l1 s.x2 s.x3 s.x4 s.x5 s.x6 s.x7 s.x8 s.x9 s.l10 s.l11 s.x12 s.l13 s.x14 s.x15 s.x16 s.x17 s.x18 s.x19 s.x20 s.x21 s.x22 s.l23 s.l24 s.l25 s.l26 = some true := by
  simp only [palinoderef20_Great.j0]
  rw [if_pos trivial]
theorem great_j0f (s : Sv) (k : Nat) (n : Int) : palinoderef20_Great.j0 (k + 1) n false s.l0 s.l1 s.x2 s.x3 s.x4 s.x5 s.x6 s.x7 s.x8 s.x9 s.l10 s.l11 s.x12 s.l13 s.x14 s.x15 s.x16 s.x17 s.x18 s.x19 s.x20 s.x21 s.x22 s.l23 s.l24 s.l25 s.l26 = palinoderef20_Great.l0 k n 0 s.l0 s.l1 s.x2 s.x3 s.x4 s.x5 s.x6 s.x7 s.x8 s.x9 s.l10 s.l11 s.x12 s.l13 s.x14 s.x15 s.x16 s.x17 s.x18 s.x19 s.x20 s.x21 s.x22 s.l23 s.l24 s.l25 s.l26 := by
  simp only [palinoderef20_Great.j0]
  rw [if_neg (by decide)]

set_option maxRecDepth 20000 in
theorem great_f (s : Sv) (hl : Lim s) : ∃ r, palinoderef20_Great.f 1000 s.l0 s.l1 s.x2 s.x3 s.x4 s.x5 s.x6 s.x7 s.x8 s.x9 s.l10 s.l11 s.x12 s.l13 s.x14 s.x15 s.x16 s.x17 s.x18 s.x19 s.x20 s.x21 s.x22 s.l23 s.l24 s.l25 s.l26 = some r ∧ (r = false → Sm s) := by
  have h0 := hl.l0
  have h1 := hl.l1
  have h10 := hl.l10
  have h11 := hl.l11
  have h13 := hl.l13
  have h23 := hl.l23
  have h26 := hl.l26
  unfold palinoderef20_Great.f
  rw [wrap_nat _ _ (by omega) (by omega), wrap_nat _ _ (by omega) (by omega), wrap_nat _ _ (by omega) (by omega), wrap_nat _ _ (by omega) (by omega), wrap_nat _ _ (by omega) (by omega), wrap_nat _ _ (by omega) (by omega)]
  by_cases c1 : ((s.l0.length + s.l1.length + s.l10.length + s.l11.length + s.l13.length + s.l23.length + s.l26.length : Nat) : Int) > 1000
  · rw [if_pos c1, great_j0]; exact ⟨true, rfl, fun h => by cases h⟩
  rw [if_neg c1]
  by_cases c2 : (s.l24.length : Int) > 40
  · rw [if_pos c2, great_j0]; exact ⟨true, rfl, fun h => by cases h⟩
  rw [if_neg c2]
  by_cases c3 : (s.l25.length : Int) > 20
  · rw [decide_eq_true c3, great_j0]; exact ⟨true, rfl, fun h => by cases h⟩
  rw [decide_eq_false c3, great_j0f]
  have h := great_l0 s hl (by omega) (by omega) s.l24.length 999 0 (s.l0.length + s.l1.length + s.l10.length + s.l11.length + s.l13.length + s.l23.length + s.l26.length) (by omega) (by omega) (by omega) (by omega)
  simp only [Int.natCast_zero] at h
  rw [List.drop_zero] at h
  refine ⟨_, h, fun hr => ?_⟩
  have ht : ¬ _ := of_decide_eq_false hr
  exact { l0 := by omega, l1 := by omega, l10 := by omega, l11 := by omega, l13 := by omega, l24 := by omega, l25 := by omega,
          w24 := fun x hx => by have := wsum_mem hx; omega, w25 := fun x hx => by have := fsum_mem hx; omega }
theorem great_any (s : Sv) (w : World) (hs : s.Ok w) (hl : Lim s) : ∃ r, (r = false → Sm s) ∧ Calls Tryd.prog 4 #[s.v] w fun e w' => e = .returned (.bool r) ∧ Below w.heap.size w w' := by
  obtain ⟨r, hr, hsm⟩ := great_f s hl
  refine ⟨r, hsm, (palinoderef20_Great.calls 1000 s.a0 s.c0 s.l0 s.a1 s.c1 s.l1 s.x2 s.x3 s.x4 s.x5 s.x6 s.x7 s.x8 s.x9 s.a10 s.c10 s.l10 s.a11 s.c11 s.l11 s.x12 s.a13 s.c13 s.l13 s.x14 s.x15 s.x16 s.x17 s.x18 s.x19 s.x20 s.x21 s.x22 s.a23 s.c23 s.l23 s.a24 s.c24 s.l24 s.a25 s.c25 s.l25 s.a26 s.c26 s.l26 r w hs.r0 hs.m0 hs.r1 hs.m1 hs.r10 hs.m10 hs.r11 hs.m11 hs.r13 hs.m13 hs.r23 hs.m23 hs.r24 hs.m24 hs.r25 hs.m25 hs.r26 hs.m26 hr).mono ?_⟩
  rintro e w1 ⟨rfl, h⟩
  exact ⟨rfl, h⟩
end Go.Proofs.YtfoijbcdbcehiaaDoor.L4
