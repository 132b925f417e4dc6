import Derived.Test.YthkkfkiiopfkjaaCBase
import Derived.Test.YthkkfkiiopfkjaaPCondSignsx2
set_option linter.unusedVariables false
set_option linter.unusedSimpArgs false
namespace Go.Proofs.Ythkkfkiiopfkjaa.L4
open Go.RowKit Go.Proofs.YthkkfkiiopfkjaaW.PrintWords Go.Proofs.YthkkfkiiopfkjaaW.PrintLast Go.Proofs.Ythkkfkiiopfkjaa.PCondSigns

/-- a number's digits -/
def digs (n : Nat) : List Int := if h : n < 10 then [48 + (n : Int)] else digs (n / 10) ++ [48 + ((n % 10 : Nat) : Int)]
termination_by n
decreasing_by omega
theorem digs_range (n : Nat) : ∀ c ∈ digs n, 48 ≤ c ∧ c ≤ 57 := by
  induction n using Nat.strongRecOn with
  | _ n ih =>
    intro c hc
    rw [digs] at hc
    split at hc
    · simp at hc; omega
    · rw [List.mem_append] at hc
      rcases hc with hc | hc
      · exact ih (n / 10) (by omega) c hc
      · simp at hc; omega
theorem digs_pos (n : Nat) : 0 < (digs n).length := by
  rw [digs]; split <;> simp
theorem digs_len (n : Nat) : (digs n).length ≤ n + 1 := by
  induction n using Nat.strongRecOn with
  | _ n ih =>
    rw [digs]
    split
    · simp
    · have := ih (n / 10) (by omega)
      rw [List.length_append, List.length_singleton]; omega
theorem digs_len_of : ∀ (k n : Nat), n < 10 ^ (k + 1) → (digs n).length ≤ k + 1
  | 0, n, h => by rw [digs, dif_pos (by simpa using h)]; simp
  | k + 1, n, h => by
    rw [digs]
    split
    · simp
    · have := digs_len_of k (n / 10) (by rw [Nat.pow_succ] at h; omega)
      rw [List.length_append, List.length_singleton]; omega
theorem digs_len5 (n : Nat) (h : n < 65536) : (digs n).length ≤ 5 := digs_len_of 4 n (by omega)
def stepD (a c : Int) : Int := a * 10 + (c - 48)
theorem digs_val (n : Nat) : (digs n).foldl stepD 0 = n := by
  induction n using Nat.strongRecOn with
  | _ n ih =>
    rw [digs]
    split
    · simp [stepD]
      omega
    · rw [List.foldl_append, ih (n / 10) (by omega)]
      simp only [List.foldl_cons, List.foldl_nil, stepD]
      omega
theorem fold_ge : ∀ (l : List Int) (a : Int), 0 ≤ a → (∀ c ∈ l, 48 ≤ c ∧ c ≤ 57) → a ≤ l.foldl stepD a
  | [], a, _, _ => Int.le_refl _
  | c :: l, a, ha, hl => by
    have hc := hl c (by simp)
    have := fold_ge l (stepD a c) (by unfold stepD; omega) (fun x hx => hl x (by simp [hx]))
    simp only [List.foldl_cons]
    unfold stepD at this ⊢
    omega

theorem digits_step (x k : Nat) (acc : List Int) (hx : x < 100000) (ha : acc.length ≤ 200000) :
    palinodelaw27_digits.l0 (k + 1) (x : Int) acc = if ((x / 10 : Nat) : Int) = 0 then some ((48 + ((x % 10 : Nat) : Int)) :: acc) else palinodelaw27_digits.l0 k ((x / 10 : Nat) : Int) ((48 + ((x % 10 : Nat) : Int)) :: acc) := by
  have e1 : Int.tmod (x : Int) 10 = ((x % 10 : Nat) : Int) := by rw [Int.tmod_eq_emod_of_nonneg (by omega)]; omega
  have e2 : Int.tdiv (x : Int) 10 = ((x / 10 : Nat) : Int) := by rw [Int.tdiv_eq_ediv_of_nonneg (by omega)]; omega
  have h1 : x % 10 < 10 := Nat.mod_lt _ (by omega)
  have h2 : x / 10 < 100000 := by omega
  generalize x % 10 = u at *
  generalize x / 10 = v at *
  have e3 : wrap64 (48 + (u : Int)) % 256 = 48 + (u : Int) := by unfold wrap64; omega
  have e4 : wrap64 (v : Int) = (v : Int) := by unfold wrap64; omega
  have hl : ([48 + (u : Int)] : List Int).length + acc.length < 140737488355328 := by rw [List.length_singleton]; omega
  simp only [palinodelaw27_digits.l0, Option.bind_some, e1, e2, e3, e4, if_pos hl]
  rfl
theorem digits_loop (x : Nat) : ∀ (acc : List Int) (k : Nat), x < 100000 → acc.length + x ≤ 200000 → x < k → palinodelaw27_digits.l0 k (x : Int) acc = some (digs x ++ acc) := by
  induction x using Nat.strongRecOn with
  | _ x ih =>
    intro acc k hx ha hk
    obtain ⟨k, rfl⟩ : ∃ m, k = m + 1 := ⟨k - 1, by omega⟩
    rw [digits_step x k acc hx (by omega), digs]
    by_cases h : x < 10
    · rw [dif_pos h, if_pos (by omega), Nat.mod_eq_of_lt h]
      rfl
    · rw [dif_neg h, if_neg (by omega), ih (x / 10) (by omega) _ k (by omega) (by rw [List.length_cons]; omega) (by omega)]
      rw [List.append_assoc]
      rfl
theorem digits_ev (x : Nat) (hx : x < 65536) : palinodelaw27_digits.f 65537 (x : Int) = some (digs x) := by
  unfold palinodelaw27_digits.f
  rw [digits_loop x [] 65537 (by omega) (by simp; omega) (by omega)]
  simp

theorem isDigit_yes (c : Int) (h : 48 ≤ c ∧ c ≤ 57) : digit_isDigit.f c = some true := by
  unfold digit_isDigit.f digit_within.f
  rw [if_pos h.1]
  simp [h.2]
theorem num_loop (L : List Int) (i : Int) : ∀ (D pre : List Int) (a : Int) (k : Nat), L = pre ++ D → (∀ c ∈ D, 48 ≤ c ∧ c ≤ 57) → 0 ≤ a → D.foldl stepD a ≤ 100000 → L.length ≤ 100000 → (D = [] → (pre.length : Int) ≠ i) → i ≤ pre.length → 2 * D.length + 2 ≤ k →
    digit_Num.l0 k L i 2147483648 a (pre.length : Int) false = some (D.foldl stepD a, (L.length : Int), 0) := by
  intro D
  induction D with
  | nil =>
    intro pre a k hL hD ha hv hlen hne hi hk
    obtain ⟨k, rfl⟩ : ∃ m, k = m + 2 := ⟨k - 2, by simp at hk; omega⟩
    have hl : L.length = pre.length := by rw [hL]; simp
    simp only [digit_Num.l0, digit_Num.j2]
    rw [if_neg (by omega), if_neg (by simp), if_neg (hne rfl), if_neg (by simp), hl]
    rfl
  | cons c D ih =>
    intro pre a k hL hD ha hv hlen hne hi hk
    simp only [List.length_cons] at hk
    obtain ⟨k, rfl⟩ : ∃ m, k = m + 2 := ⟨k - 2, by omega⟩
    have hl : L.length = pre.length + (D.length + 1) := by rw [hL]; simp
    have hc := hD c (by simp)
    have hr : rd L (pre.length : Int) = c := by rw [rd, hL]; simp [List.getD_eq_getElem?_getD]
    have hge := fold_ge D (stepD a c) (by unfold stepD; omega) (fun x hx => hD x (by simp [hx]))
    simp only [List.foldl_cons] at hv
    have ha2 : stepD a c ≤ 100000 := Int.le_trans hge hv
    unfold stepD at ha2
    have e1 : (c - 48) % 256 = c - 48 := by omega
    have e2 : wrap64 (2147483648 - (c - 48)) = 2147483648 - (c - 48) := by unfold wrap64; omega
    have e3 : Int.tdiv (2147483648 - (c - 48)) 10 = (2147483648 - (c - 48)) / 10 := Int.tdiv_eq_ediv_of_nonneg (by omega)
    have e4 : wrap64 ((2147483648 - (c - 48)) / 10) = (2147483648 - (c - 48)) / 10 := by unfold wrap64; omega
    have e5 : wrap64 (a * 10) = a * 10 := by unfold wrap64; omega
    have e6 : wrap64 (a * 10 + (c - 48)) = stepD a c := by unfold wrap64 stepD; omega
    have e7 : wrap64 ((pre.length : Int) + 1) = ((pre ++ [c]).length : Nat) := by rw [List.length_append, List.length_singleton]; unfold wrap64; omega
    have hn := ih (pre ++ [c]) (stepD a c) k (by rw [hL]; simp) (fun x hx => hD x (by simp [hx])) (by unfold stepD; omega) hv hlen (fun _ => by rw [List.length_append, List.length_singleton]; omega) (by rw [List.length_append, List.length_singleton]; omega) (by omega)
    simp only [digit_Num.l0]
    rw [if_pos (by omega), if_pos (by omega), hr, isDigit_yes c hc]
    simp only [Option.bind_some, digit_Num.j2]
    rw [if_pos trivial, if_pos (by omega), if_pos (by omega), if_neg (by simp), hr, e1, e2, e3, e4, if_neg (by omega), if_neg (by omega), e5, e6, e7, decide_eq_false (by omega), hn]
    rfl
theorem num_ev (L A D : List Int) (hL : L = A ++ D) (hD : ∀ c ∈ D, 48 ≤ c ∧ c ≤ 57) (hne : 0 < D.length) (hlen : L.length ≤ 100000) (hv : D.foldl stepD 0 ≤ 100000) :
    digit_Num.f (2 * D.length + 3) L (A.length : Int) 2147483648 = some (D.foldl stepD 0, (L.length : Int), 0) := by
  have hl : L.length = A.length + D.length := by rw [hL]; simp
  unfold digit_Num.f
  rw [if_neg (by omega), decide_eq_false (by omega)]
  simp only [digit_Num.j0]
  rw [if_neg (by simp)]
  exact num_loop L (A.length : Int) D A 0 _ hL hD (Int.le_refl _) hv hlen (fun h => by rw [h] at hne; simp at hne) (Int.le_refl _) (by omega)
end Go.Proofs.Ythkkfkiiopfkjaa.L4
