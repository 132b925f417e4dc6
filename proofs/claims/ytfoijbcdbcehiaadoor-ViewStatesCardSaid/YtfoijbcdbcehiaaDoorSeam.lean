import Derived.Test.YtfoijbcdbcehiaaDoorPViewStatesx3
import Derived.Test.YtfoijbcdbcehiaaDoorPViewStatesx6
import Derived.Test.YtfoijbcdbcehiaaDoorPViewStatesx7
import Derived.Test.YtfoijbcdbcehiaaDoorTable
set_option linter.unusedVariables false
namespace Go.Proofs.YtfoijbcdbcehiaaDoor.L4
open Go.RowKit Go.Proofs.YtfoijbcdbcehiaaDoorW.PrintWords Go.Proofs.YtfoijbcdbcehiaaDoorW.PrintLast Go.Proofs.YtfoijbcdbcehiaaDoor.PViewStates

theorem bit_f (b : Bool) : view_bit.f b = some (bitS b) := by cases b <;> rfl
theorem text_f (n : Int) (h : I64 n) : digit_Text.f n = some (txt n) := by unfold digit_Text.f; exact if_pos h
theorem phase_f (n : Int) (h : I64 n) : view_phase.f n = some (phaseS n) := by
  unfold view_phase.f phaseS
  simp only [Option.bind_some, List.length_cons, List.length_nil]
  by_cases h0 : n < 0
  · rw [if_pos h0, text_f n h, if_neg (by omega), if_neg (by omega), if_neg (by omega), if_neg (by omega)]; rfl
  · rw [if_neg h0]
    by_cases h4 : 4 ≤ n
    · rw [if_pos (by omega), text_f n h, if_neg (by omega), if_neg (by omega), if_neg (by omega), if_neg (by omega)]; rfl
    · obtain rfl | rfl | rfl | rfl : n = 0 ∨ n = 1 ∨ n = 2 ∨ n = 3 := by omega
      all_goals rfl
theorem row_f (l : List ByteArray) (hn : l.length ≤ 100) (h : ∀ x ∈ l, x.size ≤ 50000) : show_Row.f l = some (joinS l sp) := by
  have hj := join_length 50000 sp l h
  have hs : sp.size = 1 := rfl
  have hm : l.length * (50000 + sp.size) ≤ 100 * 50001 := by rw [hs]; exact Nat.mul_le_mul_right _ hn
  unfold show_Row.f strings_Join.f
  rw [if_pos ⟨by omega, by have := hj; exact Nat.le_trans hj (by omega)⟩]
  rfl
theorem phaseS_size (n : Int) (h : I64 n) : (phaseS n).size ≤ 21 := by
  unfold phaseS
  split
  · exact Nat.le_of_lt (by decide)
  · split
    · exact Nat.le_of_lt (by decide)
    · split
      · exact Nat.le_of_lt (by decide)
      · split
        · exact Nat.le_of_lt (by decide)
        · exact Nat.le_trans (txt_size n h.1 h.2) (by omega)
theorem bitS_size (b : Bool) : (bitS b).size ≤ 21 := by cases b <;> exact Nat.le_of_lt (by decide)
theorem txtI_size (n : Int) (h : I64 n) : (txt n).size ≤ 50000 := Nat.le_trans (txt_size n h.1 h.2) (by omega)
theorem quote_f (l : List Int) (hl : Bs l) (hn : l.length ≤ 20000) : show_Quote.f l = some (strOfNums (quL l)) := by
  unfold show_Quote.f
  rw [if_pos ⟨List.all_eq_true.2 (fun x hx => decide_eq_true (hl x hx)), by omega⟩]

theorem sp_eq : sp = (⟨#[32]⟩ : ByteArray) := rfl

/-- the words of Where -/
def whereW (n : Int) (s : Sv) : List ByteArray :=
  [(⟨#[115, 116, 101, 112]⟩ : ByteArray), txt n, (⟨#[108, 105, 110, 101]⟩ : ByteArray), txt s.x3, (⟨#[112, 99]⟩ : ByteArray), txt s.x16, (⟨#[112, 104, 97, 115, 101]⟩ : ByteArray), phaseS s.x15]
    ++ (if s.x15 = 3 then [(⟨#[101, 120, 105, 116]⟩ : ByteArray), txt s.x17] ++ (if s.x19 = 0 then [] else [(⟨#[101, 114, 114, 111, 114]⟩ : ByteArray), txt s.x19, (⟨#[97, 116]⟩ : ByteArray), txt s.x18]) else [])
theorem where_f (n : Int) (s : Sv) (w : World) (hn : I64 n) (hs : s.Ok w) : view_Where.f n s.l0 s.l1 s.x2 s.x3 s.x4 s.x5 s.x6 s.x7 s.x8 s.x9 s.l10 s.l11 s.x12 s.l13 s.x14 s.x15 s.x16 s.x17 s.x18 s.x19 s.x20 s.x21 s.x22 s.l23 s.l24 s.l25 s.l26 = some (joinS (whereW n s) sp) := by
  have b0 := txtI_size n hn
  have b1 := txtI_size s.x3 hs.n3
  have b2 := txtI_size s.x16 hs.n16
  have b3 := txtI_size s.x17 hs.n17
  have b4 := txtI_size s.x19 hs.n19
  have b5 := txtI_size s.x18 hs.n18
  have b6 : (phaseS s.x15).size ≤ 50000 := Nat.le_trans (phaseS_size _ hs.n15) (by omega)
  unfold view_Where.f whereW
  rw [text_f n hn, text_f _ hs.n3, text_f _ hs.n16, phase_f _ hs.n15, text_f _ hs.n17, text_f _ hs.n18, text_f _ hs.n19]
  simp only [Option.bind_some]
  by_cases h3 : s.x15 = 3
  · rw [if_pos h3, if_pos h3, if_pos (by simp)]
    by_cases h0 : s.x19 = 0
    · rw [if_pos h0, if_pos h0, row_f _ (by simp) (by
        intro x hx
        simp only [List.mem_append, List.mem_cons, List.not_mem_nil, or_false] at hx
        rcases hx with (rfl | rfl | rfl | rfl | rfl | rfl | rfl | rfl) | rfl | rfl <;> first | assumption | exact Nat.le_of_lt (by decide))]
      simp only [Option.bind_some, List.append_nil]
    · rw [if_neg h0, if_neg h0, if_pos (by simp), row_f _ (by simp) (by
        intro x hx
        simp only [List.mem_append, List.mem_cons, List.not_mem_nil, or_false] at hx
        rcases hx with ((rfl | rfl | rfl | rfl | rfl | rfl | rfl | rfl) | rfl | rfl) | rfl | rfl | rfl | rfl <;> first | assumption | exact Nat.le_of_lt (by decide))]
      simp only [Option.bind_some, List.append_assoc]
  · rw [if_neg h3, if_neg h3, row_f _ (by simp) (by
        intro x hx
        simp only [List.mem_cons, List.not_mem_nil, or_false] at hx
        rcases hx with rfl | rfl | rfl | rfl | rfl | rfl | rfl | rfl <;> first | assumption | exact Nat.le_of_lt (by decide))]
    simp only [Option.bind_some, List.append_nil]
theorem where_any (n : Int) (s : Sv) (w : World) (hn : I64 n) (hs : s.Ok w) (ht : Tb w) :
    Calls Tryd.prog 6 #[.int .i64 n, s.v] w fun e w' => e = .returned (.string (joinS (whereW n s) sp)) ∧ Below w.heap.size w w' :=
  view_Where.calls n s.a0 s.c0 s.l0 s.a1 s.c1 s.l1 s.x2 s.x3 s.x4 s.x5 s.x6 s.x7 s.x8 s.x9 s.a10 s.c10 s.l10 s.a11 s.c11 s.l11 s.x12 s.a13 s.c13 s.l13 s.x14 s.x15 s.x16 s.x17 s.x18 s.x19 s.x20 s.x21 s.x22 s.a23 s.c23 s.l23 s.a24 s.c24 s.l24 s.a25 s.c25 s.l25 s.a26 s.c26 s.l26 _ w hs.r0 hs.m0 hs.r1 hs.m1 hs.r10 hs.m10 hs.r11 hs.m11 hs.r13 hs.m13 hs.r23 hs.m23 hs.r24 hs.m24 hs.r25 hs.m25 hs.r26 hs.m26 ht (where_f n s w hn hs)

/-- the registers' row -/
def regsW (s : Sv) : List ByteArray :=
  [(⟨#[110, 108]⟩ : ByteArray), bitS s.x2, (⟨#[115, 117, 98, 115, 116]⟩ : ByteArray), bitS s.x4, (⟨#[108, 97, 115, 116]⟩ : ByteArray), txt s.x5, (⟨#[115, 105, 108, 101, 110, 116]⟩ : ByteArray), bitS s.x20, (⟨#[113, 117, 105, 116]⟩ : ByteArray), bitS s.x21, (⟨#[97, 103, 97, 105, 110]⟩ : ByteArray), bitS s.x22, (⟨#[99, 117, 114]⟩ : ByteArray), txt s.x8, (⟨#[109, 105, 115, 115, 105, 110, 103]⟩ : ByteArray), txt s.x9]
theorem regs_f (s : Sv) (w : World) (hs : s.Ok w) : view_regs.f s.l0 s.l1 s.x2 s.x3 s.x4 s.x5 s.x6 s.x7 s.x8 s.x9 s.l10 s.l11 s.x12 s.l13 s.x14 s.x15 s.x16 s.x17 s.x18 s.x19 s.x20 s.x21 s.x22 s.l23 s.l24 s.l25 s.l26 = some [joinS (regsW s) sp] := by
  have b1 := txtI_size s.x5 hs.n5
  have b2 := txtI_size s.x8 hs.n8
  have b3 := txtI_size s.x9 hs.n9
  have c : ∀ b, (bitS b).size ≤ 50000 := fun b => Nat.le_trans (bitS_size b) (by omega)
  unfold view_regs.f
  rw [bit_f, bit_f, bit_f, bit_f, bit_f, text_f _ hs.n5, text_f _ hs.n8, text_f _ hs.n9]
  simp only [Option.bind_some]
  rw [row_f _ (by simp) (by
        intro x hx
        simp only [List.mem_cons, List.not_mem_nil, or_false] at hx
        rcases hx with rfl | rfl | rfl | rfl | rfl | rfl | rfl | rfl | rfl | rfl | rfl | rfl | rfl | rfl | rfl | rfl <;> first | assumption | exact c _ | exact Nat.le_of_lt (by decide))]
  rfl
theorem regs_any (s : Sv) (w : World) (hs : s.Ok w) (ht : Tb w) :
    Calls Tryd.prog 20 #[s.v] w fun e w' => ∃ v, e = .returned v ∧ Kd.R Kd.string 9 w' w.heap.size (fun _ => True) v [joinS (regsW s) sp] ∧ Below w.heap.size w w' :=
  view_regs.calls s.a0 s.c0 s.l0 s.a1 s.c1 s.l1 s.x2 s.x3 s.x4 s.x5 s.x6 s.x7 s.x8 s.x9 s.a10 s.c10 s.l10 s.a11 s.c11 s.l11 s.x12 s.a13 s.c13 s.l13 s.x14 s.x15 s.x16 s.x17 s.x18 s.x19 s.x20 s.x21 s.x22 s.a23 s.c23 s.l23 s.a24 s.c24 s.l24 s.a25 s.c25 s.l25 s.a26 s.c26 s.l26 _ w hs.r0 hs.m0 hs.r1 hs.m1 hs.r10 hs.m10 hs.r11 hs.m11 hs.r13 hs.m13 hs.r23 hs.m23 hs.r24 hs.m24 hs.r25 hs.m25 hs.r26 hs.m26 ht (regs_f s w hs)

/-- what waits, one row each -/
def waitsW (x : Wt) : List ByteArray := [if x.f0 = 1 then (⟨#[102, 105, 108, 101]⟩ : ByteArray) else (⟨#[116, 101, 120, 116]⟩ : ByteArray), strOfNums (quL x.f1)]
def waitsS (s : Sv) : List ByteArray := s.l24.map fun x => joinS (waitsW x) sp
theorem waits_loop (l : List Wt) (hl : ∀ x ∈ l, Bs x.f1 ∧ I64 x.f0) (hn : l.length ≤ 10000) (hm : ∀ x ∈ l, x.f1.length ≤ 10000) (d : Nat) : ∀ (k i : Nat) (acc : List ByteArray), i ≤ l.length → l.length - i = d → d < k →
    acc = (l.take i).map (fun x => joinS (waitsW x) sp) → view_waits.l0 k acc l (l.length : Int) i = some (l.map fun x => joinS (waitsW x) sp) := by
  induction d with
  | zero =>
    intro k i acc hi hd hk ha
    obtain ⟨k, rfl⟩ : ∃ m, k = m + 1 := ⟨k - 1, by omega⟩
    obtain rfl : i = l.length := by omega
    rw [List.take_length] at ha
    simp only [view_waits.l0]
    rw [if_neg (by omega), ha]
  | succ d ih =>
    intro k i acc hi hd hk ha
    obtain ⟨k, rfl⟩ : ∃ m, k = m + 1 := ⟨k - 1, by omega⟩
    have hlt : i < l.length := by omega
    have hrd : rd_T48 l i = l[i] := by simp [rd_T48, List.getD_eq_getElem?_getD, List.getElem?_eq_getElem hlt]
    have hmem : l[i] ∈ l := List.getElem_mem hlt
    have hB := hl _ hmem
    have hM := hm _ hmem
    have hnext : (l.take (i + 1)).map (fun x => joinS (waitsW x) sp) = acc ++ [joinS (waitsW l[i]) sp] := by
      rw [List.take_succ_eq_append_getElem hlt, List.map_append, ha]; rfl
    have hw : wrap64 ((i : Int) + 1) = ((i + 1 : Nat) : Int) := wrap_succ i (by omega)
    have hal : acc.length ≤ 10000 := by rw [ha, List.length_map]; exact Nat.le_trans (List.length_take_le _ _) (by omega)
    have hq : (strOfNums (quL l[i].f1)).size ≤ 50000 := by rw [strOfNums_size]; have := quL_length' l[i].f1; omega
    simp only [view_waits.l0]
    rw [if_pos (by omega), if_pos (by omega), if_pos (by omega), hrd, quote_f _ hB.1 (by omega), hw]
    simp only [Option.bind_some]
    by_cases h1 : l[i].f0 = 1
    · rw [if_pos h1, row_f _ (by simp) (by
        intro x hx
        simp only [List.mem_cons, List.not_mem_nil, or_false] at hx
        rcases hx with rfl | rfl
        · exact Nat.le_of_lt (by decide)
        · exact hq)]
      simp only [Option.bind_some]
      rw [if_pos (by omega)]
      refine ih k (i + 1) _ (by omega) (by omega) (by omega) ?_
      rw [hnext, waitsW, if_pos h1]
    · rw [if_neg h1, row_f _ (by simp) (by
        intro x hx
        simp only [List.mem_cons, List.not_mem_nil, or_false] at hx
        rcases hx with rfl | rfl
        · exact Nat.le_of_lt (by decide)
        · exact hq)]
      simp only [Option.bind_some]
      rw [if_pos (by omega)]
      refine ih k (i + 1) _ (by omega) (by omega) (by omega) ?_
      rw [hnext, waitsW, if_neg h1]
theorem waits_f (s : Sv) (w : World) (hs : s.Ok w) (hm : Sm s) : view_waits.f 10001 s.l0 s.l1 s.x2 s.x3 s.x4 s.x5 s.x6 s.x7 s.x8 s.x9 s.l10 s.l11 s.x12 s.l13 s.x14 s.x15 s.x16 s.x17 s.x18 s.x19 s.x20 s.x21 s.x22 s.l23 s.l24 s.l25 s.l26 = some (waitsS s) := by
  unfold view_waits.f
  exact waits_loop s.l24 hs.b24 hm.l24 hm.w24 s.l24.length 10001 0 [] (by omega) (by omega) (by have := hm.l24; omega) rfl
theorem waits_any (s : Sv) (w : World) (hs : s.Ok w) (hm : Sm s) :
    Calls Tryd.prog 21 #[s.v] w fun e w' => ∃ v, e = .returned v ∧ Kd.R Kd.string 9 w' w.heap.size (fun _ => True) v (waitsS s) ∧ Below w.heap.size w w' :=
  view_waits.calls 10001 s.a0 s.c0 s.l0 s.a1 s.c1 s.l1 s.x2 s.x3 s.x4 s.x5 s.x6 s.x7 s.x8 s.x9 s.a10 s.c10 s.l10 s.a11 s.c11 s.l11 s.x12 s.a13 s.c13 s.l13 s.x14 s.x15 s.x16 s.x17 s.x18 s.x19 s.x20 s.x21 s.x22 s.a23 s.c23 s.l23 s.a24 s.c24 s.l24 s.a25 s.c25 s.l25 s.a26 s.c26 s.l26 _ w hs.r0 hs.m0 hs.r1 hs.m1 hs.r10 hs.m10 hs.r11 hs.m11 hs.r13 hs.m13 hs.r23 hs.m23 hs.r24 hs.m24 hs.r25 hs.m25 hs.r26 hs.m26 (waits_f s w hs hm)

/-! ### the reference's quote -/
theorem refQuote_loop (l : List Int) (hl : Bs l) (hn : l.length ≤ 20000) (d : Nat) : ∀ (k i : Nat) (acc : List Int), i ≤ l.length → l.length - i = d → d < k →
    acc = 34 :: (l.take i).flatMap qmL → palinoderef04_Quote.l0 k l acc i = some (strOfNums (quL l)) := by
  induction d with
  | zero =>
    intro k i acc hi hd hk ha
    obtain ⟨k, rfl⟩ : ∃ m, k = m + 1 := ⟨k - 1, by omega⟩
    obtain rfl : i = l.length := by omega
    have hfl := flat_length l
    rw [List.take_length] at ha
    simp only [palinoderef04_Quote.l0]
    rw [if_neg (by omega), if_pos (by rw [ha, List.length_cons]; omega), ha]
    rfl
  | succ d ih =>
    intro k i acc hi hd hk ha
    obtain ⟨k, rfl⟩ : ∃ m, k = m + 1 := ⟨k - 1, by omega⟩
    have hlt : i < l.length := by omega
    have hts : (l.take (i + 1)) = l.take i ++ [rd l i] := by
      rw [List.take_succ_eq_append_getElem hlt, rd]; congr 2; simp [List.getElem?_eq_getElem hlt]
    have hrg := hl (rd l i) (by rw [rd]; simp [List.getElem?_eq_getElem hlt])
    have hfl := flat_length (l.take i)
    have hlk : (l.take i).length ≤ i := List.length_take_le _ _
    have hal : acc.length ≤ 4 * i + 1 := by rw [ha, List.length_cons]; omega
    have hw : wrap64 ((i : Int) + 1) = ((i + 1 : Nat) : Int) := wrap_succ i (by omega)
    simp only [palinoderef04_Quote.l0]
    rw [if_pos (by omega), if_pos (by omega), hw]
    clear hw
    by_cases hq : rd l i = 34
    · rw [if_pos hq]
      simp only [Option.bind_some]
      rw [if_pos (by simp only [List.length_cons, List.length_nil]; omega)]
      refine ih k (i + 1) _ (by omega) (by omega) (by omega) ?_
      rw [hts, flat_snoc, ← ha, qmL, if_pos hq]
    · have hql : qmL (rd l i) = mkL (rd l i) := by rw [qmL, if_neg hq]
      have hml := mkL_length (rd l i)
      rw [if_neg hq, palinoderef04_Mark.f, if_pos hrg]
      simp only [Option.bind_some]
      rw [strOfNums_size, if_pos (by omega), bytesOf_strOfNums _ (mkL_range _ hrg.1 hrg.2)]
      refine ih k (i + 1) _ (by omega) (by omega) (by omega) ?_
      rw [hts, flat_snoc, ← ha, hql]
theorem refQuote_f (l : List Int) (hl : Bs l) (hn : l.length ≤ 20000) : palinoderef04_Quote.f 20001 l = some (strOfNums (quL l)) := by
  unfold palinoderef04_Quote.f
  exact refQuote_loop l hl hn l.length 20001 0 [34] (by omega) (by omega) (by omega) (by simp)
theorem refQuote_any (A : Option Addr) (c : Nat) (l : List Int) (w : World) (hr : Kd.C (Kd.int .u8) w A l.length l) (hc : l.length ≤ c) (hl : Bs l) (hn : l.length ≤ 20000) :
    Calls Tryd.prog 23 #[.slice A l.length c] w fun e w' => e = .returned (.string (strOfNums (quL l))) ∧ Below w.heap.size w w' :=
  palinoderef04_Quote.calls 20001 A c l _ w hr hc (refQuote_f l hl hn)

/-! ### the same -/
theorem same_loop (l : List ByteArray) (hn : l.length ≤ 20000) (d : Nat) : ∀ (k i : Nat), i ≤ l.length → l.length - i = d → d < k → palinoderef30_Same.l0 k l l i = some true := by
  induction d with
  | zero =>
    intro k i hi hd hk
    obtain ⟨k, rfl⟩ : ∃ m, k = m + 1 := ⟨k - 1, by omega⟩
    simp only [palinoderef30_Same.l0]
    rw [if_neg (by omega)]
  | succ d ih =>
    intro k i hi hd hk
    obtain ⟨k, rfl⟩ : ∃ m, k = m + 1 := ⟨k - 1, by omega⟩
    have hw : wrap64 ((i : Int) + 1) = ((i + 1 : Nat) : Int) := wrap_succ i (by omega)
    simp only [palinoderef30_Same.l0]
    rw [if_pos (by omega), if_pos (by omega), if_pos (by omega), if_pos trivial, hw]
    exact ih k (i + 1) (by omega) (by omega) (by omega)
theorem same_any (A B : Option Addr) (c d : Nat) (l : List ByteArray) (w : World) (hr : Kd.C Kd.string w A l.length l) (hc : l.length ≤ c) (hr' : Kd.C Kd.string w B l.length l) (hc' : l.length ≤ d) (hn : l.length ≤ 20000) :
    Calls Tryd.prog 10 #[.slice A l.length c, .slice B l.length d] w fun e w' => e = .returned (.bool true) ∧ Drawn0 w w' := by
  refine palinoderef30_Same.calls 20001 A c l B d l true w hr hc hr' hc' ?_
  unfold palinoderef30_Same.f
  rw [if_pos rfl]
  exact same_loop l hn l.length 20001 0 (by omega) (by omega) (by omega)
end Go.Proofs.YtfoijbcdbcehiaaDoor.L4
