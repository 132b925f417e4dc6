import Derived.Test.YthkkfkiiopfkjaaCTexts
set_option linter.unusedVariables false
set_option linter.unusedSimpArgs false
namespace Go.Proofs.Ythkkfkiiopfkjaa.L4
open Go.RowKit Go.Proofs.YthkkfkiiopfkjaaW.PrintWords

theorem bt_get (s : ByteArray) (x : Nat) : bt s (x : Nat) = (bytesOf s).getD x 0 := by rw [← rd_bytesOf, rd, Int.toNat_natCast]
theorem bytesOf_extract (s : ByteArray) (a b : Nat) : bytesOf (s.extract a b) = ((bytesOf s).take b).drop a := by
  simp only [bytesOf, ByteArray.data_extract]
  rw [Array.toList_extract, List.extract_eq_drop_take', ← List.map_take, ← List.map_drop]
theorem getD_mid {A W B : List Int} {x : Nat} (h : x < W.length) : (A ++ (W ++ B)).getD (A.length + x) 0 = W.getD x 0 := by
  simp only [List.getD_eq_getElem?_getD]
  rw [List.getElem?_append_right (by omega), Nat.add_sub_cancel_left, List.getElem?_append_left h]
theorem getD_rep {n x : Nat} (h : x < n) : (List.replicate n (32 : Int)).getD x 0 = 32 := by
  simp [List.getD_eq_getElem?_getD, List.getElem?_replicate, h]
section
variable {G : Nat} {s : ByteArray} {d : Int} {A B W : List Int} {sp i0 : Nat}
/-- the spaces -/
theorem sp_at (h : bytesOf s = A ++ (List.replicate sp 32 ++ B)) : ∀ x, A.length ≤ x → x < A.length + sp → bt s (x : Nat) = 32 := by
  intro x h1 h2
  obtain ⟨y, rfl⟩ : ∃ y, x = A.length + y := ⟨x - A.length, by omega⟩
  rw [bt_get, h, getD_mid (by rw [List.length_replicate]; omega)]
  exact getD_rep (by omega)
theorem tok_at (h : bytesOf s = A ++ (List.replicate sp 32 ++ (W ++ B))) {y : Nat} (hy : y < W.length) : bt s ((A.length + sp + y : Nat)) = W.getD y 0 := by
  have h' : bytesOf s = (A ++ List.replicate sp 32) ++ (W ++ B) := by rw [h]; simp
  rw [bt_get, h']
  have := getD_mid (A := A ++ List.replicate sp 32) (W := W) (B := B) hy
  rw [List.length_append, List.length_replicate] at this
  exact this
theorem aft_at (h : bytesOf s = A ++ (List.replicate sp 32 ++ (W ++ B))) {y : Nat} (hy : y < B.length) : bt s ((A.length + sp + W.length + y : Nat)) = B.getD y 0 := by
  have h' : bytesOf s = A ++ (List.replicate sp 32 ++ ((W ++ B) ++ [])) := by rw [h]; simp
  have := tok_at (W := W ++ B) (B := []) h' (y := W.length + y) (by rw [List.length_append]; omega)
  rw [show A.length + sp + (W.length + y) = A.length + sp + W.length + y by omega] at this
  rw [this, List.getD_eq_getElem?_getD, List.getElem?_append_right (by omega), Nat.add_sub_cancel_left, ← List.getD_eq_getElem?_getD]
theorem lexWord (hs : s.size ≤ 100000) (h : bytesOf s = A ++ (List.replicate sp 32 ++ (W ++ B))) (hW : ∀ y, y < W.length → 97 ≤ W.getD y 0 ∧ W.getD y 0 ≤ 122) (hne : 0 < W.length) (hB : B = [] ∨ (0 < B.length ∧ ¬ (97 ≤ B.getD 0 0 ∧ B.getD 0 0 ≤ 122)))
    (hr : ∀ c ∈ W, 0 ≤ c ∧ c ≤ 255) (hw : strOfNums W ∈ words) {i0 i1 p1 : Int} (e0 : i0 = (A.length : Nat)) (e1 : i1 = (A.length + sp + W.length : Nat)) (e2 : p1 = (A.length + sp : Nat)) : NextTo G s i0 d i1 1 p1 0 (strOfNums W) := by
  subst e0; subst e1; subst e2
  intro k p n q w hP
  have hz := size_of h
  simp only [List.length_append, List.length_replicate] at hz
  have hx : s.extract (A.length + sp) (A.length + sp + W.length) = strOfNums W := by
    apply ba_ext
    rw [bytesOf_extract, h, bytesOf_strOfNums _ hr, show A ++ (List.replicate sp 32 ++ (W ++ B)) = (A ++ List.replicate sp 32) ++ (W ++ B) by simp, List.take_append, List.drop_append]
    simp
  have := next_word G s A.length (A.length + sp) (A.length + sp + W.length) k p n q d w hs hP (by omega) (by omega) (by omega) (sp_at h)
    (fun x h1 h2 => by
      obtain ⟨y, rfl⟩ : ∃ y, x = A.length + sp + y := ⟨x - (A.length + sp), by omega⟩
      rw [tok_at h (by omega)]; exact hW y (by omega))
    (by
      rcases hB with rfl | ⟨hB0, hB⟩
      · exact .inl (by simp at hz; omega)
      · refine .inr ?_
        have := aft_at h (y := 0) hB0
        rw [Nat.add_zero] at this
        rw [this]; exact hB) (by rw [hx]; exact hw)
  rw [hx] at this
  exact this
theorem lexEnd (hs : s.size ≤ 100000) (h : bytesOf s = A ++ (List.replicate sp 32 ++ [])) {i0 i1 : Int} (e0 : i0 = (A.length : Nat)) (e1 : i1 = (A.length + sp : Nat)) : NextTo G s i0 d i1 0 i1 0 ⟨#[]⟩ := by
  subst e0; subst e1
  intro k p n q w hP
  have hz := size_of h
  simp only [List.length_append, List.length_replicate, List.length_nil] at hz
  exact next_end G s A.length (A.length + sp) k p n q d w hs hP (by omega) (sp_at h) (by omega)
theorem lexQuote (hs : s.size ≤ 100000) (h : bytesOf s = A ++ (List.replicate sp 32 ++ (34 :: B))) {K t1 : Nat} {b : List Int} (hb : ∀ x ∈ b, 0 ≤ x ∧ x ≤ 255) (hu : PCondSigns.show_Unquote.f K s ((A.length + sp : Nat) : Int) = some (b, (t1 : Int), 0)) {i0 i1 p1 : Int} (e0 : i0 = (A.length : Nat)) (e1 : i1 = (t1 : Nat)) (e2 : p1 = (A.length + sp : Nat)) :
    NextTo G s i0 d i1 3 p1 0 (strOfNums b) := by
  subst e0; subst e1; subst e2
  intro k p n q w hP
  have hz := size_of h
  simp only [List.length_append, List.length_replicate, List.length_cons] at hz
  have h' : bytesOf s = A ++ (List.replicate sp 32 ++ ([34] ++ B)) := by rw [h]; rfl
  exact next_quote G s A.length (A.length + sp) b t1 K k p n q d w hs hP (by omega) (sp_at h) (by omega) (by have := tok_at h' (y := 0) (by simp); simpa using this) hb hu
theorem lexNum (hs : s.size ≤ 100000) {c : Int} (h : bytesOf s = A ++ (List.replicate sp 32 ++ (c :: B))) (hc : 48 ≤ c ∧ c ≤ 57) {K t1 : Nat} {m : Int} (hu : PCondSigns.digit_Num.f K (bytesOf s) ((A.length + sp : Nat) : Int) 2147483648 = some (m, (t1 : Int), 0)) {i0 i1 p1 : Int} (e0 : i0 = (A.length : Nat)) (e1 : i1 = (t1 : Nat)) (e2 : p1 = (A.length + sp : Nat)) :
    NextTo G s i0 d i1 2 p1 m ⟨#[]⟩ := by
  subst e0; subst e1; subst e2
  intro k p n q w hP
  have hz := size_of h
  simp only [List.length_append, List.length_replicate, List.length_cons] at hz
  have h' : bytesOf s = A ++ (List.replicate sp 32 ++ ([c] ++ B)) := by rw [h]; rfl
  exact next_num G s A.length (A.length + sp) c m t1 K k p n q d w hs hP (by omega) (sp_at h) (by omega) (by have := tok_at h' (y := 0) (by simp); simpa using this) hc hu
end
/-- whether one text begins with another, by numbers -/
theorem prefix_nums : ∀ (a b : List UInt8), Lib.hasPrefix a b = (b.map (fun x => (x.toNat : Int))).isPrefixOf (a.map (fun x => (x.toNat : Int)))
  | [], [] => rfl
  | _ :: _, [] => rfl
  | [], _ :: _ => rfl
  | x :: a, y :: b => by
    have ih : b.isPrefixOf a = (b.map (fun x => (x.toNat : Int))).isPrefixOf (a.map (fun x => (x.toNat : Int))) := prefix_nums a b
    show (y == x && b.isPrefixOf a) = (((y.toNat : Int) == (x.toNat : Int)) && (b.map (fun x => (x.toNat : Int))).isPrefixOf (a.map (fun x => (x.toNat : Int))))
    rw [ih]
    congr 1
    by_cases hxy : y = x
    · subst hxy; simp
    · have : ¬ (y.toNat : Int) = (x.toNat : Int) := fun e => hxy (UInt8.toNat.inj (by omega))
      rw [beq_eq_false_iff_ne.2 hxy, beq_eq_false_iff_ne.2 this]
theorem prefix_at (s t : ByteArray) (i : Nat) : Lib.hasPrefix (s.extract i s.size).data.toList t.data.toList = (bytesOf t).isPrefixOf ((bytesOf s).drop i) := by
  rw [prefix_nums]
  have := bytesOf_drop s i
  unfold bytesOf at this ⊢
  rw [this]
theorem lexSign {G : Nat} {s : ByteArray} {d : Int} {A B : List Int} {sp : Nat} (hs : s.size ≤ 100000) (m : Nat) (hm : m < 6) (h : bytesOf s = A ++ (List.replicate sp 32 ++ (bytesOf (sgs.getD m ⟨#[]⟩) ++ B))) (hB : 0 < B.length ∧ B.getD 0 0 ≠ 61) {i0 i1 p1 : Int} (e0 : i0 = (A.length : Nat)) (e1 : i1 = (A.length + sp + (sgs.getD m ⟨#[]⟩).size : Nat)) (e2 : p1 = (A.length + sp : Nat)) :
    NextTo G s i0 d i1 4 p1 0 (sgs.getD m ⟨#[]⟩) := by
  subst e0; subst e1; subst e2
  intro k p n q w hP
  have hz := size_of h
  simp only [List.length_append, List.length_replicate] at hz
  have hdr : (bytesOf s).drop (A.length + sp) = bytesOf (sgs.getD m ⟨#[]⟩) ++ B := by
    rw [h, show A ++ (List.replicate sp 32 ++ (bytesOf (sgs.getD m ⟨#[]⟩) ++ B)) = (A ++ List.replicate sp 32) ++ (bytesOf (sgs.getD m ⟨#[]⟩) ++ B) by simp]
    exact List.drop_left' (by simp)
  obtain ⟨hB0, hB1⟩ := hB
  obtain ⟨c, r, rfl⟩ : ∃ c r, B = c :: r := by
    cases B with
    | nil => simp at hB0
    | cons c r => exact ⟨c, r, rfl⟩
  have hc61 : c ≠ 61 := by simpa using hB1
  have hl : 0 < (bytesOf (sgs.getD m ⟨#[]⟩)).length := by
    obtain rfl | rfl | rfl | rfl | rfl | rfl : m = 0 ∨ m = 1 ∨ m = 2 ∨ m = 3 ∨ m = 4 ∨ m = 5 := by omega
    all_goals decide
  refine next_sign G s A.length (A.length + sp) ((bytesOf (sgs.getD m ⟨#[]⟩)).getD 0 0) m k p n q d w hs hP (by omega) (sp_at h) (by omega) (by have := tok_at h (y := 0) hl; simpa using this) ?_ hm ?_ ?_
  · obtain rfl | rfl | rfl | rfl | rfl | rfl : m = 0 ∨ m = 1 ∨ m = 2 ∨ m = 3 ∨ m = 4 ∨ m = 5 := by omega
    all_goals decide
  · intro y hy
    rw [prefix_at, hdr]
    have hne : (61 == c) = false := by simp; omega
    obtain rfl | rfl | rfl | rfl | rfl | rfl : m = 0 ∨ m = 1 ∨ m = 2 ∨ m = 3 ∨ m = 4 ∨ m = 5 := by omega
    · omega
    · obtain rfl : y = 0 := by omega
      rfl
    · obtain rfl | rfl : y = 0 ∨ y = 1 := by omega
      all_goals rfl
    · obtain rfl | rfl | rfl : y = 0 ∨ y = 1 ∨ y = 2 := by omega
      all_goals rfl
    · obtain rfl | rfl | rfl | rfl : y = 0 ∨ y = 1 ∨ y = 2 ∨ y = 3 := by omega
      all_goals simp [sgs, bytesOf, List.isPrefixOf, hne]
    · obtain rfl | rfl | rfl | rfl | rfl : y = 0 ∨ y = 1 ∨ y = 2 ∨ y = 3 ∨ y = 4 := by omega
      all_goals simp [sgs, bytesOf, List.isPrefixOf, hne]
  · rw [prefix_at, hdr]
    obtain rfl | rfl | rfl | rfl | rfl | rfl : m = 0 ∨ m = 1 ∨ m = 2 ∨ m = 3 ∨ m = 4 ∨ m = 5 := by omega
    all_goals rfl
end Go.Proofs.Ythkkfkiiopfkjaa.L4
