import Derived.Test.YthkkfkiiopfkjaaPCondSignsx2
set_option linter.unusedVariables false
set_option linter.unusedSimpArgs false
namespace Go.Proofs.Ythkkfkiiopfkjaa.Pure
open Go.RowKit Go.Proofs.Ythkkfkiiopfkjaa.PCondSigns Go.Proofs.YthkkfkiiopfkjaaW.PrintWords Go.Proofs.YthkkfkiiopfkjaaW.PrintLast Go.Proofs.Ythkkfkiiopfkjaa.L4

abbrev InRange (l : List Int) : Prop := ∀ x ∈ l, 0 ≤ x ∧ x ≤ 255

/-! ### the reference's quote -/
theorem refQuote_loop (l : List Int) (hl : InRange l) (hn : l.length ≤ 200) (d : Nat) : ∀ (k i : Nat) (acc : List Int), i ≤ l.length → l.length - i = d → d < k →
    acc = 34 :: (l.take i).flatMap qmL → palinoderef04_Quote.l0 k l acc i = some (strOfNums (quL l)) := by
  induction d with
  | zero =>
    intro k i acc hi hd hk ha
    obtain ⟨k, rfl⟩ : ∃ m, k = m + 1 := ⟨k - 1, by omega⟩
    obtain rfl : i = l.length := by omega
    have hfl := flat_length l
    rw [List.take_length] at ha
    simp only [palinoderef04_Quote.l0]
    rw [if_neg (by omega), if_pos (by rw [ha, List.length_cons]; omega), ha]
    rfl
  | succ d ih =>
    intro k i acc hi hd hk ha
    obtain ⟨k, rfl⟩ : ∃ m, k = m + 1 := ⟨k - 1, by omega⟩
    have hlt : i < l.length := by omega
    have hts : (l.take (i + 1)) = l.take i ++ [rd l i] := by
      rw [List.take_succ_eq_append_getElem hlt, rd]; congr 2; simp [List.getElem?_eq_getElem hlt]
    have hrg := hl (rd l i) (by rw [rd]; simp [List.getElem?_eq_getElem hlt])
    have hfl := flat_length (l.take i)
    have hlk : (l.take i).length ≤ i := List.length_take_le _ _
    have hal : acc.length ≤ 4 * i + 1 := by rw [ha, List.length_cons]; omega
    have hw : wrap64 ((i : Int) + 1) = ((i + 1 : Nat) : Int) := by rw [wrap64_id (by omega) (by omega)]; omega
    simp only [palinoderef04_Quote.l0]
    rw [if_pos (by omega), if_pos (by omega)]
    by_cases hq : rd l i = 34
    · rw [if_pos hq]
      simp only [Option.bind_some]
      rw [if_pos (by simp only [List.length_cons, List.length_nil]; omega), hw]
      refine ih k (i + 1) _ (by omega) (by omega) (by omega) ?_
      rw [hts, flat_snoc, ← ha, qmL, if_pos hq]
    · have hql : qmL (rd l i) = mkL (rd l i) := by rw [qmL, if_neg hq]
      have hml := mkL_length (rd l i)
      rw [if_neg hq, palinoderef04_Mark.f, if_pos hrg]
      simp only [Option.bind_some]
      rw [strOfNums_size, if_pos (by omega), hw, bytesOf_strOfNums _ (mkL_range _ hrg.1 hrg.2)]
      refine ih k (i + 1) _ (by omega) (by omega) (by omega) ?_
      rw [hts, flat_snoc, ← ha, hql]

theorem refQuote_ev (l : List Int) (hl : InRange l) (hn : l.length ≤ 200) (k : Nat) (hk : 201 ≤ k) : palinoderef04_Quote.f k l = some (strOfNums (quL l)) := by
  unfold palinoderef04_Quote.f
  exact refQuote_loop l hl hn l.length k 0 [34] (by omega) (by omega) (by omega) (by simp)

/-! ### what stands behind a backslash -/
theorem indexByte_letter (c : Int) (h0 : 7 ≤ c) (h1 : c < 14) : Lib.indexByte [97, 98, 116, 110, 118, 102, 114] ([97, 98, 116, 110, 118, 102, 114].getD (c - 7).toNat (0 : Int)).toNat.toUInt8 = c - 7 := by
  obtain rfl | rfl | rfl | rfl | rfl | rfl | rfl : c = 7 ∨ c = 8 ∨ c = 9 ∨ c = 10 ∨ c = 11 ∨ c = 12 ∨ c = 13 := by omega
  all_goals decide +kernel
theorem indexByte_digit (c : Int) (h0 : 48 ≤ c) (h1 : c < 56) : Lib.indexByte [97, 98, 116, 110, 118, 102, 114] c.toNat.toUInt8 = -1 := by
  obtain rfl | rfl | rfl | rfl | rfl | rfl | rfl | rfl : c = 48 ∨ c = 49 ∨ c = 50 ∨ c = 51 ∨ c = 52 ∨ c = 53 ∨ c = 54 ∨ c = 55 := by omega
  all_goals decide +kernel

theorem nonempty {t : ByteArray} {c : Int} {suf : List Int} (h : bytesOf t = c :: suf) : ¬ t.toList = ([] : List UInt8) := by
  intro e
  rw [ByteArray.toList_eq] at e
  rw [bytesOf, e] at h
  simp at h

/-- a backslash or a quote -/
theorem escape_self (t : ByteArray) (c : Int) (suf : List Int) (h : bytesOf t = c :: suf) (hc : c = 92 ∨ c = 34) (k : Nat) (hk : 1 ≤ k) : show_escape.f k t = some (c, 1, 0) := by
  obtain ⟨k, rfl⟩ : ∃ m, k = m + 1 := ⟨k - 1, by omega⟩
  have hb : bt t 0 = c := bt_of (pre := []) h (by simp)
  have hs := size_of h
  rw [List.length_cons] at hs
  unfold show_escape.f
  rw [if_neg (nonempty h), if_pos (by omega), hb]
  rcases hc with rfl | rfl
  · rw [if_pos rfl]; simp only [show_escape.j0]; rw [if_pos trivial, if_pos (by omega), hb]
  · rw [if_neg (by omega)]; simp only [show_escape.j0]; rw [if_pos (by rfl), if_pos (by omega), hb]

theorem j0_head (t : ByteArray) (c : Int) (suf : List Int) (h : bytesOf t = c :: suf) (h92 : c ≠ 92) (h34 : c ≠ 34) (k : Nat) :
    show_escape.f (k + 1) t = if Lib.indexByte [97, 98, 116, 110, 118, 102, 114] c.toNat.toUInt8 ≥ 0 then some ((7 + (Lib.indexByte [97, 98, 116, 110, 118, 102, 114] c.toNat.toUInt8 % 256)) % 256, 1, 0) else show_escape.l0 k t 0 0 := by
  have hb : bt t 0 = c := bt_of (pre := []) h (by simp)
  have hs := size_of h
  rw [List.length_cons] at hs
  unfold show_escape.f
  rw [if_neg (nonempty h), if_pos (by omega), hb, if_neg h92]
  simp only [show_escape.j0]
  rw [if_neg (by simp; exact h34), if_pos (by omega), hb]
  rfl

theorem escape_letter (t : ByteArray) (c : Int) (suf : List Int) (h0 : 7 ≤ c) (h1 : c < 14) (h : bytesOf t = [97, 98, 116, 110, 118, 102, 114].getD (c - 7).toNat (0 : Int) :: suf) (k : Nat) (hk : 1 ≤ k) : show_escape.f k t = some (c, 1, 0) := by
  obtain ⟨k, rfl⟩ : ∃ m, k = m + 1 := ⟨k - 1, by omega⟩
  have hx := indexByte_letter c h0 h1
  rw [j0_head t _ suf h (by obtain rfl | rfl | rfl | rfl | rfl | rfl | rfl : c = 7 ∨ c = 8 ∨ c = 9 ∨ c = 10 ∨ c = 11 ∨ c = 12 ∨ c = 13 := by omega
                            all_goals decide) (by obtain rfl | rfl | rfl | rfl | rfl | rfl | rfl : c = 7 ∨ c = 8 ∨ c = 9 ∨ c = 10 ∨ c = 11 ∨ c = 12 ∨ c = 13 := by omega
                                                  all_goals decide), hx, if_pos (by omega)]
  congr 2; omega

theorem octal_yes (c : Int) (h0 : 48 ≤ c) (h1 : c ≤ 55) : show_isOctal.f c = some true := by
  unfold show_isOctal.f; rw [if_pos (by omega)]; simp; omega

theorem escape_octal (t : ByteArray) (a b c : Int) (suf : List Int) (h : bytesOf t = a :: b :: c :: suf) (ha : 48 ≤ a ∧ a < 52) (hb : 48 ≤ b ∧ b < 56) (hc : 48 ≤ c ∧ c < 56) (k : Nat) (hk : 6 ≤ k) :
    show_escape.f k t = some ((a - 48) * 64 + (b - 48) * 8 + (c - 48), 3, 0) := by
  obtain ⟨k, rfl⟩ : ∃ m, k = m + 5 := ⟨k - 5, by omega⟩
  have hs := size_of h
  simp only [List.length_cons] at hs
  have b0 : bt t 0 = a := bt_of (pre := []) h (by simp)
  have b1 : bt t 1 = b := bt_of (pre := [a]) h (by simp)
  have b2 : bt t 2 = c := bt_of (pre := [a, b]) h (by simp)
  rw [j0_head t a _ h (by omega) (by omega), indexByte_digit a (by omega) (by omega), if_neg (by omega)]
  rw [show k + 4 = (((k + 1) + 1) + 1) + 1 from rfl]
  simp only [show_escape.l0]
  rw [if_pos (by omega), if_neg (by omega), if_pos (by omega), if_pos (by omega), b0, octal_yes a (by omega) (by omega)]
  simp only [Option.bind_some, if_true]
  rw [show wrap64 ((0 : Int) + 1) = 1 from by unfold wrap64; omega]
  rw [if_pos (by omega), if_neg (by omega), if_pos (by omega), if_pos (by omega), b1, octal_yes b (by omega) (by omega)]
  simp only [Option.bind_some, if_true]
  rw [show wrap64 ((1 : Int) + 1) = 2 from by unfold wrap64; omega]
  rw [if_pos (by omega), if_neg (by omega), if_pos (by omega), if_pos (by omega), b2, octal_yes c (by omega) (by omega)]
  simp only [Option.bind_some, if_true]
  rw [show wrap64 ((2 : Int) + 1) = 3 from by unfold wrap64; omega]
  rw [if_neg (by omega)]
  have e0 : wrap64 (wrap64 ((0 : Int) * 8) + (a - 48) % 256) = a - 48 := by unfold wrap64; omega
  have e1 : wrap64 (wrap64 ((a - 48) * 8) + (b - 48) % 256) = (a - 48) * 8 + (b - 48) := by unfold wrap64; omega
  have e2 : wrap64 (wrap64 (((a - 48) * 8 + (b - 48)) * 8) + (c - 48) % 256) = (a - 48) * 64 + (b - 48) * 8 + (c - 48) := by unfold wrap64; omega
  rw [e0, e1, e2, if_neg (by omega)]
  congr 2; omega

/-- what stands behind the backslash of a mark -/
theorem escape_mark (t : ByteArray) (c : Int) (m suf : List Int) (h0 : 0 ≤ c) (h1 : c ≤ 255) (hm : qmL c = 92 :: m) (h : bytesOf t = m ++ suf) (k : Nat) (hk : 6 ≤ k) : show_escape.f k t = some (c, (m.length : Int), 0) := by
  unfold qmL at hm
  split at hm
  · rename_i e
    subst e
    obtain rfl : m = [34] := by simpa using hm.symm
    exact escape_self t 34 suf h (Or.inr rfl) k (by omega)
  · unfold mkL at hm
    split at hm
    · rename_i e
      subst e
      obtain rfl : m = [92] := by simpa using hm.symm
      exact escape_self t 92 suf h (Or.inl rfl) k (by omega)
    · split at hm
      · rename_i e
        obtain rfl : m = [[97, 98, 116, 110, 118, 102, 114].getD (c - 7).toNat 0] := by
          have := (List.cons.inj hm).2; exact this.symm
        exact escape_letter t c suf e.1 e.2 h k (by omega)
      · split at hm
        · rename_i n92 _ _
          exact absurd (List.cons.inj hm).1 n92
        · obtain rfl : m = [48 + c / 64, 48 + c / 8 % 8, 48 + c % 8] := (List.cons.inj hm).2.symm
          rw [escape_octal t _ _ _ suf h (by omega) (by omega) (by omega) k hk]
          congr 2; omega

theorem qmL_cases (c : Int) : (∃ m, qmL c = 92 :: m) ∨ (qmL c = [c] ∧ c ≠ 34 ∧ c ≠ 92) := by
  unfold qmL
  split
  · exact .inl ⟨_, rfl⟩
  · rename_i h34
    unfold mkL
    split
    · exact .inl ⟨_, rfl⟩
    · rename_i h92
      split
      · exact .inl ⟨_, rfl⟩
      · split
        · exact .inr ⟨rfl, h34, h92⟩
        · exact .inl ⟨_, rfl⟩

theorem unq_loop (s : ByteArray) (hs : s.size ≤ 100000) (rest : List Int) (l : List Int) : ∀ (k : Nat) (pre acc : List Int), InRange l → bytesOf s = pre ++ (l.flatMap qmL ++ 34 :: rest) → acc.length + l.length ≤ 100000 → l.length + 8 ≤ k →
    show_Unquote.l0 k s (pre.length : Int) acc = some (acc ++ l, ((pre.length + (l.flatMap qmL).length + 1 : Nat) : Int), 0) := by
  induction l with
  | nil =>
    intro k pre acc _ h ha hk
    obtain ⟨k, rfl⟩ : ∃ m, k = m + 1 := ⟨k - 1, by omega⟩
    have h' : bytesOf s = pre ++ 34 :: rest := by simpa using h
    have hb : bt s (pre.length : Int) = 34 := bt_of h' rfl
    have hz := size_of h'
    simp only [List.length_append, List.length_cons] at hz
    simp only [show_Unquote.l0]
    rw [if_pos (by omega), if_pos (by omega), hb, if_pos rfl, wrap64_id (by omega) (by omega)]
    simp
  | cons c l ih =>
    intro k pre acc hl h ha hk
    obtain ⟨k, rfl⟩ : ∃ m, k = m + 1 := ⟨k - 1, by omega⟩
    have hc := hl c (by simp)
    have hl' : InRange l := fun x hx => hl x (by simp [hx])
    simp only [List.length_cons] at ha hk
    rcases qmL_cases c with ⟨m, hm⟩ | ⟨hm, h34, h92⟩
    · have h' : bytesOf s = pre ++ 92 :: (m ++ (l.flatMap qmL ++ 34 :: rest)) := by simpa [hm] using h
      have hb : bt s (pre.length : Int) = 92 := bt_of h' rfl
      have hz := size_of h'
      simp only [List.length_append, List.length_cons] at hz
      have hx : bytesOf (s.extract (pre.length + 1) s.size) = m ++ (l.flatMap qmL ++ 34 :: rest) := by
        rw [bytesOf_drop, h']
        rw [show pre ++ 92 :: (m ++ (l.flatMap qmL ++ 34 :: rest)) = (pre ++ [92]) ++ (m ++ (l.flatMap qmL ++ 34 :: rest)) by simp]
        exact List.drop_left' (by simp)
      have he := escape_mark _ c m _ hc.1 hc.2 hm hx k (by omega)
      have hn := ih k (pre ++ 92 :: m) (acc ++ [c]) hl' (by rw [h']; simp) (by simp; omega) (by omega)
      have hn' : show_Unquote.l0 k s ((pre.length + 1 + m.length : Nat) : Int) (acc ++ [c]) = some (acc ++ [c] ++ l, ((pre.length + 1 + m.length + (l.flatMap qmL).length + 1 : Nat) : Int), 0) := by
        have e : (pre ++ 92 :: m).length = pre.length + 1 + m.length := by simp; omega
        rw [e] at hn; exact hn
      clear hn
      simp only [show_Unquote.l0]
      rw [if_pos (by omega), if_pos (by omega), hb, if_neg (by omega), if_pos rfl, wrap_succ _ (by omega), if_pos (by omega), if_pos (by omega), Int.toNat_natCast, he]
      simp only [Option.bind_some]
      rw [if_pos trivial, if_pos (by omega), wrap_add _ _ (by omega) (by omega), hn']
      simp [hm]
      omega
    · have h' : bytesOf s = pre ++ c :: (l.flatMap qmL ++ 34 :: rest) := by simpa [hm] using h
      have hb : bt s (pre.length : Int) = c := bt_of h' rfl
      have hz := size_of h'
      simp only [List.length_append, List.length_cons] at hz
      have hn := ih k (pre ++ [c]) (acc ++ [c]) hl' (by rw [h']; simp) (by simp; omega) (by omega)
      simp only [show_Unquote.l0]
      rw [if_pos (by omega), if_pos (by omega), hb, if_neg h34, if_neg h92, if_pos (by omega), wrap64_id (by omega) (by omega)]
      simp only [List.length_append, List.length_cons, List.length_nil] at hn
      rw [show ((pre.length : Int) + 1) = ((pre.length + (0 + 1) : Nat) : Int) by omega, hn]
      simp [hm]
      omega

theorem quL_length (l : List Int) : (quL l).length ≤ 4 * l.length + 2 := by
  have := flat_length l
  simp only [quL, List.length_cons, List.length_append, List.length_nil]; omega

theorem unquote_ev (l : List Int) (hl : InRange l) (hn : l.length ≤ 200) (front rest : ByteArray) (hf : front.size ≤ 20) (hr : rest.size ≤ 20) (k : Nat) (hk : 300 ≤ k) :
    show_Unquote.f k ((front ++ strOfNums (quL l)) ++ rest) (front.size : Int) = some (l, ((front.size + (quL l).length : Nat) : Int), 0) := by
  obtain ⟨k, rfl⟩ : ∃ m, k = m + 1 := ⟨k - 1, by omega⟩
  have hq := quL_length l
  have hb : bytesOf ((front ++ strOfNums (quL l)) ++ rest) = bytesOf front ++ 34 :: (l.flatMap qmL ++ 34 :: bytesOf rest) := by
    rw [bytesOf_append, bytesOf_append, bytesOf_strOfNums _ (quL_range l hl), quL]; simp
  have hfl := bytesOf_length front
  have hrl := bytesOf_length rest
  have hll := flat_length l
  have hz := size_of hb
  simp only [List.length_append, List.length_cons, hfl, hrl] at hz
  have h34 : bt ((front ++ strOfNums (quL l)) ++ rest) (front.size : Int) = 34 := bt_of hb (by rw [hfl])
  have hloop := unq_loop ((front ++ strOfNums (quL l)) ++ rest) (by omega) (bytesOf rest) l k (bytesOf front ++ [34]) [] hl (by rw [hb]; simp) (by simp; omega) (by omega)
  simp only [List.length_append, List.length_cons, List.length_nil, hfl, List.nil_append] at hloop
  unfold show_Unquote.f
  rw [if_neg (by omega)]
  simp only [show_Unquote.j0]
  rw [if_neg (by simp; omega), if_neg (by omega), if_pos (by omega), if_pos (by omega), h34, if_pos rfl, wrap64_id (by omega) (by omega)]
  rw [show ((front.size : Int) + 1) = ((front.size + (0 + 1) : Nat) : Int) by omega, hloop]
  simp only [quL, List.length_append, List.length_cons, List.length_nil]
  congr 2
  simp; omega

end Go.Proofs.Ythkkfkiiopfkjaa.Pure
