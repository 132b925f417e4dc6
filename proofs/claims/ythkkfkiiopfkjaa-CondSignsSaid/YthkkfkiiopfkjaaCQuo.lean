import Derived.Test.YthkkfkiiopfkjaaCLine
import Derived.Test.YthkkfkiiopfkjaaCPure
set_option linter.unusedVariables false
set_option linter.unusedSimpArgs false
namespace Go.Proofs.Ythkkfkiiopfkjaa.L4
open Go.RowKit Go.Proofs.YthkkfkiiopfkjaaW.PrintWords

def fIs : ByteArray := ⟨#[104, 111, 108, 100, 32, 105, 115]⟩
def fHas : ByteArray := ⟨#[104, 111, 108, 100, 32, 104, 97, 115, 32]⟩
theorem app_empty (a : ByteArray) : a ++ ByteArray.empty = a := by
  apply ba_ext; rw [bytesOf_append]; simp [bytesOf]
theorem bytes_is (b : List Int) (hb : ∀ x ∈ b, 0 ≤ x ∧ x ≤ 255) : bytesOf (fIs ++ strOfNums (quL b)) = [104, 111, 108, 100, 32, 105, 115] ++ quL b := by rw [bytesOf_append, bytesOf_strOfNums _ (quL_range b hb)]; rfl
theorem bytes_has (b : List Int) (hb : ∀ x ∈ b, 0 ≤ x ∧ x ≤ 255) : bytesOf (fHas ++ strOfNums (quL b)) = [104, 111, 108, 100, 32, 104, 97, 115, 32] ++ quL b := by rw [bytesOf_append, bytesOf_strOfNums _ (quL_range b hb)]; rfl

theorem parse_is (b : List Int) (hb : ∀ x ∈ b, 0 ≤ x ∧ x ≤ 255) (hl : b.length ≤ 100) :
    ParseTo (fIs ++ strOfNums (quL b)) (fun G w v => TxtC G 62 w v (fnV 37) (strOfNums b)) := by
  have h := bytes_is b hb
  have hu := Pure.unquote_ev b hb (by omega) fIs ByteArray.empty (by decide) (by decide) 300 (by omega)
  rw [app_empty] at hu
  have hq := quL_len b
  have hsz := size_of h
  rw [List.length_append] at hsz
  simp only [List.length_cons, List.length_nil] at hsz
  rw [show fIs.size = 7 from rfl] at hu
  generalize fIs ++ strOfNums (quL b) = s at *
  have hz : s.size ≤ 100000 := by omega
  have e : ((7 + (quL b).length : Nat) : Int) = (s.size : Nat) := by omega
  rw [e] at hu
  have n0 : ∀ G, NextTo G s 0 0 4 1 0 0 wHold := fun G => by
    exact lexWord (A := []) (sp := 0) (W := [104, 111, 108, 100]) (B := [32, 105, 115] ++ quL b) hz (by simpa using h) (by
      intro y hy
      have hy4 : y < 4 := hy
      obtain rfl | rfl | rfl | rfl : y = 0 ∨ y = 1 ∨ y = 2 ∨ y = 3 := by omega
      all_goals decide) (by decide) (.inr (by simp)) (by decide) (List.Mem.tail _ (List.Mem.head _)) rfl rfl rfl
  have n1 : ∀ G, NextTo G s 4 0 7 1 5 0 ⟨#[105, 115]⟩ := fun G => by
    exact lexWord (A := [104, 111, 108, 100]) (sp := 1) (W := [105, 115]) (B := quL b) hz (by simpa using h) (by
      intro y hy
      have hy4 : y < 2 := hy
      obtain rfl | rfl : y = 0 ∨ y = 1 := by omega
      all_goals decide) (by decide) (.inr (by simp [quL])) (by decide) (List.Mem.tail _ (List.Mem.tail _ (List.Mem.tail _ (List.Mem.head _)))) rfl rfl rfl
  have n2 : ∀ G, NextTo G s 7 0 (s.size : Int) 3 7 0 (strOfNums b) := fun G =>
    lexQuote (A := [104, 111, 108, 100, 32, 105, 115]) (sp := 0) (B := b.flatMap qmL ++ [34]) hz (by simpa [quL] using h) hb hu rfl rfl rfl
  have n3 : ∀ G, NextTo G s (s.size : Int) 0 (s.size : Int) 0 (s.size : Int) 0 ⟨#[]⟩ := fun G =>
    lexEnd (A := bytesOf s) (sp := 0) hz (by simp) (by rw [bytesOf_length]) (by rw [bytesOf_length]; simp)
  exact parse_txt false s (by omega) (by rw [strOfNums_size]; omega) n0 n1 n2 n3

theorem parse_has (b : List Int) (hb : ∀ x ∈ b, 0 ≤ x ∧ x ≤ 255) (hl : b.length ≤ 100) :
    ParseTo (fHas ++ strOfNums (quL b)) (fun G w v => TxtC G 60 w v (fnV 37) (strOfNums b)) := by
  have h := bytes_has b hb
  have hu := Pure.unquote_ev b hb (by omega) fHas ByteArray.empty (by decide) (by decide) 300 (by omega)
  rw [app_empty] at hu
  have hq := quL_len b
  have hsz := size_of h
  rw [List.length_append] at hsz
  simp only [List.length_cons, List.length_nil] at hsz
  rw [show fHas.size = 9 from rfl] at hu
  generalize fHas ++ strOfNums (quL b) = s at *
  have hz : s.size ≤ 100000 := by omega
  have e : ((9 + (quL b).length : Nat) : Int) = (s.size : Nat) := by omega
  rw [e] at hu
  have n0 : ∀ G, NextTo G s 0 0 4 1 0 0 wHold := fun G => by
    exact lexWord (A := []) (sp := 0) (W := [104, 111, 108, 100]) (B := [32, 104, 97, 115, 32] ++ quL b) hz (by simpa using h) (by
      intro y hy
      have hy4 : y < 4 := hy
      obtain rfl | rfl | rfl | rfl : y = 0 ∨ y = 1 ∨ y = 2 ∨ y = 3 := by omega
      all_goals decide) (by decide) (.inr (by simp)) (by decide) (List.Mem.tail _ (List.Mem.head _)) rfl rfl rfl
  have n1 : ∀ G, NextTo G s 4 0 8 1 5 0 ⟨#[104, 97, 115]⟩ := fun G => by
    exact lexWord (A := [104, 111, 108, 100]) (sp := 1) (W := [104, 97, 115]) (B := [32] ++ quL b) hz (by simpa using h) (by
      intro y hy
      have hy4 : y < 3 := hy
      obtain rfl | rfl | rfl : y = 0 ∨ y = 1 ∨ y = 2 := by omega
      all_goals decide) (by decide) (.inr (by simp [quL])) (by decide) (List.Mem.tail _ (List.Mem.tail _ (List.Mem.tail _ (List.Mem.tail _ (List.Mem.head _))))) rfl rfl rfl
  have n2 : ∀ G, NextTo G s 8 0 (s.size : Int) 3 9 0 (strOfNums b) := fun G =>
    lexQuote (A := [104, 111, 108, 100, 32, 104, 97, 115]) (sp := 1) (B := b.flatMap qmL ++ [34]) hz (by simpa [quL] using h) hb hu rfl rfl rfl
  have n3 : ∀ G, NextTo G s (s.size : Int) 0 (s.size : Int) 0 (s.size : Int) 0 ⟨#[]⟩ := fun G =>
    lexEnd (A := bytesOf s) (sp := 0) hz (by simp) (by rw [bytesOf_length]) (by rw [bytesOf_length]; simp)
  exact parse_txt true s (by omega) (by rw [strOfNums_size]; omega) n0 n1 n2 n3

theorem parse_changed : ParseTo ⟨#[104, 111, 108, 100, 32, 99, 104, 97, 110, 103, 101, 100]⟩ (fun _ w v => ChgC w v (fnV 37)) := by
  have h : bytesOf ⟨#[104, 111, 108, 100, 32, 99, 104, 97, 110, 103, 101, 100]⟩ = [104, 111, 108, 100, 32, 99, 104, 97, 110, 103, 101, 100] := rfl
  have hz4 : (⟨#[104, 111, 108, 100, 32, 99, 104, 97, 110, 103, 101, 100]⟩ : ByteArray).size ≤ 4096 := by decide
  have hs12 : (⟨#[104, 111, 108, 100, 32, 99, 104, 97, 110, 103, 101, 100]⟩ : ByteArray).size = 12 := rfl
  generalize (⟨#[104, 111, 108, 100, 32, 99, 104, 97, 110, 103, 101, 100]⟩ : ByteArray) = s at *
  have hz : s.size ≤ 100000 := by omega
  have n0 : ∀ G, NextTo G s 0 0 4 1 0 0 wHold := fun G => by
    exact lexWord (A := []) (sp := 0) (W := [104, 111, 108, 100]) (B := [32, 99, 104, 97, 110, 103, 101, 100]) hz (by simpa using h) (by
      intro y hy
      have hy4 : y < 4 := hy
      obtain rfl | rfl | rfl | rfl : y = 0 ∨ y = 1 ∨ y = 2 ∨ y = 3 := by omega
      all_goals decide) (by decide) (.inr (by simp)) (by decide) (List.Mem.tail _ (List.Mem.head _)) rfl rfl rfl
  have n1 : ∀ G, NextTo G s 4 0 12 1 5 0 ⟨#[99, 104, 97, 110, 103, 101, 100]⟩ := fun G => by
    exact lexWord (A := [104, 111, 108, 100]) (sp := 1) (W := [99, 104, 97, 110, 103, 101, 100]) (B := []) hz (by simpa using h) (by
      intro y hy
      have hy4 : y < 7 := hy
      obtain rfl | rfl | rfl | rfl | rfl | rfl | rfl : y = 0 ∨ y = 1 ∨ y = 2 ∨ y = 3 ∨ y = 4 ∨ y = 5 ∨ y = 6 := by omega
      all_goals decide) (by decide) (.inl rfl) (by decide) (List.Mem.tail _ (List.Mem.tail _ (List.Mem.tail _ (List.Mem.tail _ (List.Mem.tail _ (List.Mem.head _)))))) rfl rfl rfl
  have n3 : ∀ G, NextTo G s 12 0 12 0 12 0 ⟨#[]⟩ := fun G =>
    lexEnd (A := [104, 111, 108, 100, 32, 99, 104, 97, 110, 103, 101, 100]) (sp := 0) hz (by simpa using h) rfl rfl
  exact parse_chg s hz4 n0 n1 n3

set_option maxRecDepth 100000 in
theorem parse_awake : ParseTo ⟨#[108, 105, 110, 101, 32, 62, 32, 50, 32, 97, 110, 100, 32, 110, 111, 116, 32, 112, 97, 116, 116, 101, 114, 110, 32, 104, 97, 115, 32, 34, 97, 34]⟩ (fun G w v => AndC w v (fun w v => NumC w v (fnV 32) 2 (sgs.getD 5 ⟨#[]⟩)) (fun w v => NotC w v (fun w v => TxtC G 60 w v (fnV 36) (strOfNums [97])))) := by
  have h : bytesOf ⟨#[108, 105, 110, 101, 32, 62, 32, 50, 32, 97, 110, 100, 32, 110, 111, 116, 32, 112, 97, 116, 116, 101, 114, 110, 32, 104, 97, 115, 32, 34, 97, 34]⟩ = [108, 105, 110, 101, 32, 62, 32, 50, 32, 97, 110, 100, 32, 110, 111, 116, 32, 112, 97, 116, 116, 101, 114, 110, 32, 104, 97, 115, 32, 34, 97, 34] := rfl
  have hz4 : (⟨#[108, 105, 110, 101, 32, 62, 32, 50, 32, 97, 110, 100, 32, 110, 111, 116, 32, 112, 97, 116, 116, 101, 114, 110, 32, 104, 97, 115, 32, 34, 97, 34]⟩ : ByteArray).size ≤ 4096 := by decide
  have hu1 : PCondSigns.digit_Num.f 100 (bytesOf ⟨#[108, 105, 110, 101, 32, 62, 32, 50, 32, 97, 110, 100, 32, 110, 111, 116, 32, 112, 97, 116, 116, 101, 114, 110, 32, 104, 97, 115, 32, 34, 97, 34]⟩) ((7 : Nat) : Int) 2147483648 = some (2, ((8 : Nat) : Int), 0) := by decide +kernel
  have hu2 : PCondSigns.show_Unquote.f 100 ⟨#[108, 105, 110, 101, 32, 62, 32, 50, 32, 97, 110, 100, 32, 110, 111, 116, 32, 112, 97, 116, 116, 101, 114, 110, 32, 104, 97, 115, 32, 34, 97, 34]⟩ ((29 : Nat) : Int) = some ([97], ((32 : Nat) : Int), 0) := by decide +kernel
  generalize (⟨#[108, 105, 110, 101, 32, 62, 32, 50, 32, 97, 110, 100, 32, 110, 111, 116, 32, 112, 97, 116, 116, 101, 114, 110, 32, 104, 97, 115, 32, 34, 97, 34]⟩ : ByteArray) = s at *
  have hz : s.size ≤ 100000 := by omega
  have n0 : ∀ G, NextTo G s 0 0 4 1 0 0 wLine := fun G => by
    exact lexWord (A := []) (sp := 0) (W := [108, 105, 110, 101]) (B := [32, 62, 32, 50, 32, 97, 110, 100, 32, 110, 111, 116, 32, 112, 97, 116, 116, 101, 114, 110, 32, 104, 97, 115, 32, 34, 97, 34]) hz (by simpa using h) (by
      intro y hy
      have hy4 : y < 4 := hy
      obtain rfl | rfl | rfl | rfl : y = 0 ∨ y = 1 ∨ y = 2 ∨ y = 3 := by omega
      all_goals decide) (by decide) (.inr (by simp)) (by decide) (List.Mem.head _) rfl rfl rfl
  have n1 : ∀ G, NextTo G s 4 0 6 4 5 0 (sgs.getD 5 ⟨#[]⟩) := fun G => by
    exact lexSign (A := [108, 105, 110, 101]) (sp := 1) (B := [32, 50, 32, 97, 110, 100, 32, 110, 111, 116, 32, 112, 97, 116, 116, 101, 114, 110, 32, 104, 97, 115, 32, 34, 97, 34]) hz 5 (by decide) (by rw [h]; rfl) (by simp) rfl rfl rfl
  have n2 : ∀ G, NextTo G s 6 0 8 2 7 2 ⟨#[]⟩ := fun G => by
    exact lexNum (A := [108, 105, 110, 101, 32, 62]) (sp := 1) (B := [32, 97, 110, 100, 32, 110, 111, 116, 32, 112, 97, 116, 116, 101, 114, 110, 32, 104, 97, 115, 32, 34, 97, 34]) (c := 50) hz (by simpa using h) (by decide) hu1 rfl rfl rfl
  have n3 : ∀ G, NextTo G s 8 0 12 1 9 0 ⟨#[97, 110, 100]⟩ := fun G => by
    exact lexWord (A := [108, 105, 110, 101, 32, 62, 32, 50]) (sp := 1) (W := [97, 110, 100]) (B := [32, 110, 111, 116, 32, 112, 97, 116, 116, 101, 114, 110, 32, 104, 97, 115, 32, 34, 97, 34]) hz (by simpa using h) (by
      intro y hy
      have hy4 : y < 3 := hy
      obtain rfl | rfl | rfl : y = 0 ∨ y = 1 ∨ y = 2 := by omega
      all_goals decide) (by decide) (.inr (by simp)) (by decide) (List.Mem.tail _ (List.Mem.tail _ (List.Mem.tail _ (List.Mem.tail _ (List.Mem.tail _ (List.Mem.tail _ (List.Mem.head _))))))) rfl rfl rfl
  have n4 : ∀ G, NextTo G s 12 0 16 1 13 0 ⟨#[110, 111, 116]⟩ := fun G => by
    exact lexWord (A := [108, 105, 110, 101, 32, 62, 32, 50, 32, 97, 110, 100]) (sp := 1) (W := [110, 111, 116]) (B := [32, 112, 97, 116, 116, 101, 114, 110, 32, 104, 97, 115, 32, 34, 97, 34]) hz (by simpa using h) (by
      intro y hy
      have hy4 : y < 3 := hy
      obtain rfl | rfl | rfl : y = 0 ∨ y = 1 ∨ y = 2 := by omega
      all_goals decide) (by decide) (.inr (by simp)) (by decide) (List.Mem.tail _ (List.Mem.tail _ (List.Mem.tail _ (List.Mem.tail _ (List.Mem.tail _ (List.Mem.tail _ (List.Mem.tail _ (List.Mem.head _)))))))) rfl rfl rfl
  have n5 : ∀ G, NextTo G s 16 (0 + 1) 24 1 17 0 wPattern := fun G => by
    exact lexWord (A := [108, 105, 110, 101, 32, 62, 32, 50, 32, 97, 110, 100, 32, 110, 111, 116]) (sp := 1) (W := [112, 97, 116, 116, 101, 114, 110]) (B := [32, 104, 97, 115, 32, 34, 97, 34]) hz (by simpa using h) (by
      intro y hy
      have hy4 : y < 7 := hy
      obtain rfl | rfl | rfl | rfl | rfl | rfl | rfl : y = 0 ∨ y = 1 ∨ y = 2 ∨ y = 3 ∨ y = 4 ∨ y = 5 ∨ y = 6 := by omega
      all_goals decide) (by decide) (.inr (by simp)) (by decide) (List.Mem.tail _ (List.Mem.tail _ (List.Mem.head _))) rfl rfl rfl
  have n6 : ∀ G, NextTo G s 24 (0 + 1) 28 1 25 0 ⟨#[104, 97, 115]⟩ := fun G => by
    exact lexWord (A := [108, 105, 110, 101, 32, 62, 32, 50, 32, 97, 110, 100, 32, 110, 111, 116, 32, 112, 97, 116, 116, 101, 114, 110]) (sp := 1) (W := [104, 97, 115]) (B := [32, 34, 97, 34]) hz (by simpa using h) (by
      intro y hy
      have hy4 : y < 3 := hy
      obtain rfl | rfl | rfl : y = 0 ∨ y = 1 ∨ y = 2 := by omega
      all_goals decide) (by decide) (.inr (by simp)) (by decide) (List.Mem.tail _ (List.Mem.tail _ (List.Mem.tail _ (List.Mem.tail _ (List.Mem.head _))))) rfl rfl rfl
  have n7 : ∀ G, NextTo G s 28 (0 + 1) 32 3 29 0 (strOfNums [97]) := fun G => by
    exact lexQuote (A := [108, 105, 110, 101, 32, 62, 32, 50, 32, 97, 110, 100, 32, 110, 111, 116, 32, 112, 97, 116, 116, 101, 114, 110, 32, 104, 97, 115]) (sp := 1) (B := [97, 34]) hz (by simpa using h) (by decide) hu2 rfl rfl rfl
  have n8 : ∀ G, NextTo G s 32 (0 + 1) 32 0 32 0 ⟨#[]⟩ := fun G =>
    lexEnd (A := [108, 105, 110, 101, 32, 62, 32, 50, 32, 97, 110, 100, 32, 110, 111, 116, 32, 112, 97, 116, 116, 101, 114, 110, 32, 104, 97, 115, 32, 34, 97, 34]) (sp := 0) hz (by simpa using h) rfl rfl
  intro w
  refine parse_ok s hz4 w (i2 := 32) (p2 := 32) (n2 := 0) (q2 := ⟨#[]⟩) (R := fun G w v => AndC w v (fun w v => NumC w v (fnV 32) 2 (sgs.getD 5 ⟨#[]⟩)) (fun w v => NotC w v (fun w v => TxtC G 60 w v (fnV 36) (strOfNums [97])))) ?_ ?_ n0 ?_
  · intro G W W' v hh hb
    exact hh.map (fun b t x _ hc => hc.below hb) (fun x hx => hx.below hb) (fun x hx => hx.map (fun b t x _ hc => hc.below hb) (fun x hx => hx.below hb))
  · intro G W v b x hh hc
    exact hh.map (fun b t x ht h1 => h1.res hc (by rw [ht]; decide)) (fun x hx => hx.res hc) (fun x hx => hx.map (fun b t x ht h1 => h1.res hc (by rw [ht]; decide)) (fun x hx => hx.res hc))
  · intro G
    have g1 : GivesFn 30 G s 4 1 0 0 wLine 0 (fun w v => NumC w v (fnV 32) 2 (sgs.getD 5 ⟨#[]⟩)) (PS G s 12 1 9 0 ⟨#[97, 110, 100]⟩ 0) := givesNum (n1 G) (n2 G) (n3 G)
    have g2 : GivesFn 30 G s 24 1 17 0 wPattern (0 + 1) (fun w v => TxtC G 60 w v (fnV 36) (strOfNums [97])) (PS G s 32 0 32 0 ⟨#[]⟩ (0 + 1)) := givesTxt true true (by decide) (n6 G) (n7 G) (n8 G)
    have g3 := part_not (p := 13) (n := 0) (d := 0) (by decide) (by decide) (fun W W' v hP hh hK => by obtain ⟨_, _, _, _, _, _, hP⟩ := hP; exact TxtC.kp hh hP hK) (n5 G) g2
    refine either_one (both_two ?_ ?_ g1 (n4 G) g3 (by decide)) (.inl (by decide))
    · intro W W' v hP hh hK
      obtain ⟨_, _, _, _, _, _, hP⟩ := hP
      exact NumC.kp hh hP hK
    · intro W W' v hP hh hK
      obtain ⟨_, _, _, _, _, _, hP⟩ := hP
      exact NotC.map hh (fun b t x ht h1 => h1.kp hP (by rw [ht]; decide) hK) (fun x hx => TxtC.kp hx hP hK)
end Go.Proofs.Ythkkfkiiopfkjaa.L4
