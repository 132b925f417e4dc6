import Derived.Test.YtfoijbcdbcehiaaDoorPViewStatesx4
import Derived.Test.YtfoijbcdbcehiaaDoorParts
namespace Go.Proofs.YtfoijbcdbcehiaaDoor.L4
open Go.RowKit Go.Proofs.YtfoijbcdbcehiaaDoorW.PrintWords Go.Proofs.YtfoijbcdbcehiaaDoor.PViewStates

theorem strOf_one (d : Int) (_ : 48 ≤ d) (_ : d ≤ 57) : (strOfNums [d]) = ⟨#[UInt8.ofNat d.toNat]⟩ := by rfl
theorem mk_append (a b : List UInt8) : (⟨a.toArray⟩ : ByteArray) ++ ⟨b.toArray⟩ = ⟨(a ++ b).toArray⟩ := by
  have : ((⟨a.toArray⟩ : ByteArray) ++ ⟨b.toArray⟩).data = (a ++ b).toArray := by rw [ByteArray.data_append]; simp
  cases h : (⟨a.toArray⟩ : ByteArray) ++ ⟨b.toArray⟩
  rw [h] at this
  simp only at this
  rw [this]
theorem dec_small {u : Nat} (h : u < 10) : Lib.decDigits u = [UInt8.ofNat (48 + u)] := Lib.decDigits_one h
theorem dec_big {u : Nat} (h : ¬ u < 10) : Lib.decDigits u = Lib.decDigits (u / 10) ++ [UInt8.ofNat (48 + u % 10)] := by
  rw [Lib.decDigits, dif_neg h]

theorem refText_f (d : Nat) : ∀ (n : Int) (k : Nat), n.natAbs < 10 ^ (d + 1) → -9223372036854775808 ≤ n → n ≤ 9223372036854775807 → 3 * (d + 1) ≤ k → palinoderef01_Text.f k n = some (txt n) := by
  induction d with
  | zero =>
    intro n k hn h0 h1 hk
    obtain ⟨k, rfl⟩ : ∃ m, k = m + 3 := ⟨k - 3, by omega⟩
    rw [show k + 3 = ((k + 1) + 1) + 1 from rfl]
    have hn' : n.natAbs < 10 := by simpa using hn
    simp only [palinoderef01_Text.f]
    rw [if_pos (by omega)]
    simp only [palinoderef01_Text.j0]
    by_cases hneg : n < 0
    · rw [if_pos (by simpa using hneg)]
      simp only [Option.bind_some]
      have e : (wrap64 (48 - n)) % 256 = 48 - n := by unfold wrap64; omega
      rw [e, strOfNums_size, if_pos (by simp), strOf_one _ (by omega) (by omega), txt, Lib.itoa, if_pos hneg, dec_small hn']
      have e2 : (48 - n).toNat = 48 + n.natAbs := by omega
      rw [e2]
      exact congrArg some (mk_append [45] [_])
    · rw [if_neg (by simpa using hneg), if_pos (by omega)]
      simp only [palinoderef01_Text.j1]
      rw [if_pos (by simp; omega)]
      have e : (wrap64 (48 + n)) % 256 = 48 + n := by unfold wrap64; omega
      have e3 : n.toNat < 10 := by omega
      rw [e, strOf_one _ (by omega) (by omega), txt, Lib.itoa, if_neg hneg, dec_small e3]
      have e2 : (48 + n).toNat = 48 + n.toNat := by omega
      rw [e2]
  | succ d ih =>
    intro n k hn h0 h1 hk
    by_cases hs : n.natAbs < 10
    · -- one digit
      have h10 : n.natAbs < 10 ^ (d + 1) := Nat.lt_of_lt_of_le hs (by rw [Nat.pow_succ]; have := Nat.pow_pos (n := d) (show 0 < 10 by omega); omega)
      exact ih n k h10 h0 h1 (by omega)
    · obtain ⟨k, rfl⟩ : ∃ m, k = m + 3 := ⟨k - 3, by omega⟩
      rw [show k + 3 = ((k + 1) + 1) + 1 from rfl]
      have hpow : n.natAbs / 10 < 10 ^ (d + 1) := by rw [Nat.pow_succ] at hn; omega
      simp only [palinoderef01_Text.f]
      rcases Int.lt_or_le n 0 with h | h
      · -- below 0
        obtain ⟨m, rfl⟩ : ∃ m : Int, n = -m := ⟨-n, by omega⟩
        have hm : 10 ≤ m := by omega
        have e1 : Int.tdiv (-m) 10 = -(m / 10) := by rw [Int.neg_tdiv, Int.tdiv_eq_ediv_of_nonneg (by omega)]
        have e2 : Int.tmod (-m) 10 = -(m % 10) := by rw [Int.neg_tmod, Int.tmod_eq_emod_of_nonneg (by omega)]
        have hw : wrap64 (-(m / 10)) = -(m / 10) := by unfold wrap64; omega
        have hrec := ih (-(m / 10)) k (by omega) (by omega) (by omega) (by omega)
        have ht : txt (-m) = txt (-(m / 10)) ++ ⟨#[UInt8.ofNat (48 + (m % 10).toNat)]⟩ := by
          have hb : ¬ (-m).natAbs < 10 := hs
          have ha : (-(m / 10)).natAbs = (-m).natAbs / 10 := by omega
          have hc : (m % 10).toNat = (-m).natAbs % 10 := by omega
          rw [txt, txt, Lib.itoa, Lib.itoa, if_pos (by omega), if_pos (by omega), dec_big hb, ha, hc]
          exact (mk_append (45 :: Lib.decDigits ((-m).natAbs / 10)) [_]).symm
        have hz := txt_size (-(m / 10)) (by omega) (by omega)
        rw [if_neg (by omega)]
        simp only [palinoderef01_Text.j0]
        rw [if_neg (by simp), if_neg (by omega)]
        simp only [palinoderef01_Text.j1]
        rw [if_neg (by simp), e1, e2, hw, hrec]
        by_cases hz0 : m % 10 = 0
        · rw [if_neg (by omega)]
          simp only [Option.bind_some]
          have e : (wrap64 (48 + -(m % 10))) % 256 = 48 + m % 10 := by rw [hz0]; unfold wrap64; omega
          rw [e, strOfNums_size, if_pos (by simp only [List.length_cons, List.length_nil]; omega), strOf_one _ (by omega) (by omega), ht]
          have e5 : (48 + m % 10).toNat = 48 + (m % 10).toNat := by omega
          rw [e5]
        · rw [if_pos (by omega)]
          simp only [Option.bind_some]
          have e : (wrap64 (48 + wrap64 (- -(m % 10)))) % 256 = 48 + m % 10 := by
            have : wrap64 (- -(m % 10)) = m % 10 := by unfold wrap64; omega
            rw [this]; unfold wrap64; omega
          rw [e, strOfNums_size, if_pos (by simp only [List.length_cons, List.length_nil]; omega), strOf_one _ (by omega) (by omega), ht]
          have e5 : (48 + m % 10).toNat = 48 + (m % 10).toNat := by omega
          rw [e5]
      · have hm : 10 ≤ n := by omega
        have e1 : Int.tdiv n 10 = n / 10 := Int.tdiv_eq_ediv_of_nonneg (by omega)
        have e2 : Int.tmod n 10 = n % 10 := Int.tmod_eq_emod_of_nonneg (by omega)
        have hw : wrap64 (n / 10) = n / 10 := by unfold wrap64; omega
        have hrec := ih (n / 10) k (by omega) (by omega) (by omega) (by omega)
        have ht : txt n = txt (n / 10) ++ ⟨#[UInt8.ofNat (48 + (n % 10).toNat)]⟩ := by
          have hb : ¬ n.toNat < 10 := by omega
          have ha : (n / 10).toNat = n.toNat / 10 := by omega
          have hc : (n % 10).toNat = n.toNat % 10 := by omega
          rw [txt, txt, Lib.itoa, Lib.itoa, if_neg (by omega), if_neg (by omega), dec_big hb, ha, hc]
          exact (mk_append (Lib.decDigits (n.toNat / 10)) [_]).symm
        have hz := txt_size (n / 10) (by omega) (by omega)
        rw [if_pos (by omega)]
        simp only [palinoderef01_Text.j0]
        rw [if_neg (by simp; omega), if_pos (by omega)]
        simp only [palinoderef01_Text.j1]
        rw [if_neg (by simp; omega), e1, e2, hw, hrec, if_neg (by omega)]
        simp only [Option.bind_some]
        have e : (wrap64 (48 + n % 10)) % 256 = 48 + n % 10 := by unfold wrap64; omega
        rw [e, strOfNums_size, if_pos (by simp only [List.length_cons, List.length_nil]; omega), strOf_one _ (by omega) (by omega), ht]
        have e5 : (48 + n % 10).toNat = 48 + (n % 10).toNat := by omega
        rw [e5]

theorem abs_lt (n : Int) (h : -9223372036854775808 ≤ n ∧ n ≤ 9223372036854775807) : n.natAbs < 10 ^ (18 + 1) := by
  have : (10 : Nat) ^ (18 + 1) = 10000000000000000000 := by decide +kernel
  omega
/-- ref's Text -/
theorem refText_any (n : Int) (h : -9223372036854775808 ≤ n ∧ n ≤ 9223372036854775807) (w : World) :
    Calls Tryd.prog 30 #[.int .i64 n] w fun e w' => e = .returned (.string (txt n)) ∧ Below w.heap.size w w' :=
  palinoderef01_Text.calls 100 n (txt n) w (refText_f 18 n 100 (abs_lt n h) h.1 h.2 (by omega))
/-- num: a blank and the number -/
def numS (n : Int) : ByteArray := ⟨#[32]⟩ ++ txt n
theorem numS_size (n : Int) (h : -9223372036854775808 ≤ n ∧ n ≤ 9223372036854775807) : (numS n).size ≤ 21 := by
  rw [numS, ByteArray.size_append]; have := txt_size n h.1 h.2; have e : (⟨#[32]⟩ : ByteArray).size = 1 := rfl; omega
theorem num_any (n : Int) (h : -9223372036854775808 ≤ n ∧ n ≤ 9223372036854775807) (w : World) :
    Calls Tryd.prog 16 #[.int .i64 n] w fun e w' => e = .returned (.string (numS n)) ∧ Below w.heap.size w w' := by
  refine palinoderef30_num.calls 100 n (numS n) w ?_
  unfold palinoderef30_num.f
  rw [refText_f 18 n 100 (abs_lt n h) h.1 h.2 (by omega)]
  have := txt_size n h.1 h.2
  simp only [Option.bind_some]
  rw [if_pos (by omega)]; rfl
end Go.Proofs.YtfoijbcdbcehiaaDoor.L4
