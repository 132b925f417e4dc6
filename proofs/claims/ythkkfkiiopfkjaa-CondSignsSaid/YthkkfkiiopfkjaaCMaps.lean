import Derived.Test.YthkkfkiiopfkjaaCBase
import Derived.Test.YthkkfkiiopfkjaaMaps
set_option linter.unusedVariables false
set_option linter.unusedSimpArgs false
namespace Go.Proofs.Ythkkfkiiopfkjaa.L4
open Go.RowKit Go.Proofs.YthkkfkiiopfkjaaW.PrintWords

/-- a function with nothing held -/
abbrev fnV (k : Nat) : Value := .func (Fn.func k) #[] #[]
def sLine : ByteArray := ⟨#[108, 105, 110, 101]⟩
def sPc : ByteArray := ⟨#[112, 99]⟩
def sExit : ByteArray := ⟨#[101, 120, 105, 116]⟩
def sWaits : ByteArray := ⟨#[119, 97, 105, 116, 115]⟩
/-- what numbers() holds -/
def numF (q : List UInt8) : Option Value :=
  if q = [119, 97, 105, 116, 115] then some (fnV 35) else if q = [101, 120, 105, 116] then some (fnV 34) else if q = [112, 99] then some (fnV 33) else if q = [108, 105, 110, 101] then some (fnV 32) else none
/-- what texts() holds -/
def txtF (q : List UInt8) : Option Value :=
  if q = [111, 117, 116] then some (fnV 39) else if q = [114, 101, 115, 116] then some (fnV 38) else if q = [104, 111, 108, 100] then some (fnV 37) else if q = [112, 97, 116, 116, 101, 114, 110] then some (fnV 36) else none
/-- what flags() holds -/
def flgF (q : List UInt8) : Option Value :=
  if q = [102, 97, 105, 108, 101, 100] then some (fnV 44) else if q = [97, 103, 97, 105, 110] then some (fnV 43) else if q = [113, 117, 105, 116] then some (fnV 42) else if q = [115, 105, 108, 101, 110, 116] then some (fnV 41) else if q = [115, 117, 98, 115, 116] then some (fnV 40) else none
/-- what phases() holds -/
def phsF (q : List UInt8) : Option Value :=
  if q = [104, 97, 108, 116, 101, 100] then some (.int .i64 3) else if q = [101, 110, 100, 105, 110, 103] then some (.int .i64 2) else if q = [98, 111, 100, 121] then some (.int .i64 1) else if q = [98, 101, 103, 105, 110] then some (.int .i64 0) else none

theorem below_of_grown {w w1 : World} {m B : Nat} (hg : w.grownBy w1 (some m)) (hB : B ≤ m) (hw : B ≤ w.heap.size) : Below B w w1 :=
  ⟨hg.os, hg.tape, hg.output, hg.size, fun q hq => hg.block q (by omega) (by intro e; cases e; omega)⟩

set_option maxRecDepth 100000 in
set_option maxHeartbeats 1000000 in
theorem numbers_any (w : World) :
    Calls Try.prog 23 #[] w fun e w' => ∃ m n, e = .returned (.map (some m)) ∧ w.heap.size ≤ m ∧ MapIs Try.prog 9 m n numF w' ∧ Below w.heap.size w w' := by
  have hmm : ∀ w : World, (Instr.makeMap 70 none).run Try.prog w = .ok (.map (some w.heap.size)) (w.alloc (.map #[] 0)) := fun _ => rfl
  have h0 := MapIs.made (P := Try.prog) w 9
  have b0 := below_alloc (Below.refl w.heap.size w) (.map #[] 0)
  obtain ⟨w1, r1, h1, g1⟩ := h0.put (t := 70) Try.underlying9 Try.underlying70 (by omega) ⟨#[108, 105, 110, 101]⟩ (by decide) (fnV 32)
  obtain ⟨w2, r2, h2, g2⟩ := h1.put (t := 70) Try.underlying9 Try.underlying70 (by omega) ⟨#[112, 99]⟩ (by decide) (fnV 33)
  obtain ⟨w3, r3, h3, g3⟩ := h2.put (t := 70) Try.underlying9 Try.underlying70 (by omega) ⟨#[101, 120, 105, 116]⟩ (by decide) (fnV 34)
  obtain ⟨w4, r4, h4, g4⟩ := h3.put (t := 70) Try.underlying9 Try.underlying70 (by omega) ⟨#[119, 97, 105, 116, 115]⟩ (by decide) (fnV 35)
  have hb : Below w.heap.size w w4 := by
    have a0 : w.heap.size ≤ (w.alloc (.map #[] 0)).heap.size := b0.size
    have a1 := g1.size
    have a2 := g2.size
    have a3 := g3.size
    exact ((((b0.trans (below_of_grown g1 (Nat.le_refl _) (by omega))).trans (below_of_grown g2 (Nat.le_refl _) (by omega))).trans (below_of_grown g3 (Nat.le_refl _) (by omega))).trans (below_of_grown g4 (Nat.le_refl _) (by omega)))
  have H4 := Lib.hid h4
  clear h0 h1 h2 h3 h4 g1 g2 g3 g4 b0
  go_enter Try.func23, Try.ntmps23
  go_wp2_with fail
  go_ret
  exact ⟨_, rfl, Nat.le_refl _, ⟨_, H4.out⟩, hb⟩
set_option maxRecDepth 100000 in
set_option maxHeartbeats 1000000 in
theorem texts_any (w : World) :
    Calls Try.prog 24 #[] w fun e w' => ∃ m n, e = .returned (.map (some m)) ∧ w.heap.size ≤ m ∧ MapIs Try.prog 9 m n txtF w' ∧ Below w.heap.size w w' := by
  have hmm : ∀ w : World, (Instr.makeMap 74 none).run Try.prog w = .ok (.map (some w.heap.size)) (w.alloc (.map #[] 0)) := fun _ => rfl
  have h0 := MapIs.made (P := Try.prog) w 9
  have b0 := below_alloc (Below.refl w.heap.size w) (.map #[] 0)
  obtain ⟨w1, r1, h1, g1⟩ := h0.put (t := 74) Try.underlying9 Try.underlying74 (by omega) ⟨#[112, 97, 116, 116, 101, 114, 110]⟩ (by decide) (fnV 36)
  obtain ⟨w2, r2, h2, g2⟩ := h1.put (t := 74) Try.underlying9 Try.underlying74 (by omega) ⟨#[104, 111, 108, 100]⟩ (by decide) (fnV 37)
  obtain ⟨w3, r3, h3, g3⟩ := h2.put (t := 74) Try.underlying9 Try.underlying74 (by omega) ⟨#[114, 101, 115, 116]⟩ (by decide) (fnV 38)
  obtain ⟨w4, r4, h4, g4⟩ := h3.put (t := 74) Try.underlying9 Try.underlying74 (by omega) ⟨#[111, 117, 116]⟩ (by decide) (fnV 39)
  have hb : Below w.heap.size w w4 := by
    have a0 : w.heap.size ≤ (w.alloc (.map #[] 0)).heap.size := b0.size
    have a1 := g1.size
    have a2 := g2.size
    have a3 := g3.size
    exact ((((b0.trans (below_of_grown g1 (Nat.le_refl _) (by omega))).trans (below_of_grown g2 (Nat.le_refl _) (by omega))).trans (below_of_grown g3 (Nat.le_refl _) (by omega))).trans (below_of_grown g4 (Nat.le_refl _) (by omega)))
  have H4 := Lib.hid h4
  clear h0 h1 h2 h3 h4 g1 g2 g3 g4 b0
  go_enter Try.func24, Try.ntmps24
  go_wp2_with fail
  go_ret
  exact ⟨_, rfl, Nat.le_refl _, ⟨_, H4.out⟩, hb⟩
set_option maxRecDepth 100000 in
set_option maxHeartbeats 1000000 in
theorem flags_any (w : World) :
    Calls Try.prog 25 #[] w fun e w' => ∃ m n, e = .returned (.map (some m)) ∧ w.heap.size ≤ m ∧ MapIs Try.prog 9 m n flgF w' ∧ Below w.heap.size w w' := by
  have hmm : ∀ w : World, (Instr.makeMap 78 none).run Try.prog w = .ok (.map (some w.heap.size)) (w.alloc (.map #[] 0)) := fun _ => rfl
  have h0 := MapIs.made (P := Try.prog) w 9
  have b0 := below_alloc (Below.refl w.heap.size w) (.map #[] 0)
  obtain ⟨w1, r1, h1, g1⟩ := h0.put (t := 78) Try.underlying9 Try.underlying78 (by omega) ⟨#[115, 117, 98, 115, 116]⟩ (by decide) (fnV 40)
  obtain ⟨w2, r2, h2, g2⟩ := h1.put (t := 78) Try.underlying9 Try.underlying78 (by omega) ⟨#[115, 105, 108, 101, 110, 116]⟩ (by decide) (fnV 41)
  obtain ⟨w3, r3, h3, g3⟩ := h2.put (t := 78) Try.underlying9 Try.underlying78 (by omega) ⟨#[113, 117, 105, 116]⟩ (by decide) (fnV 42)
  obtain ⟨w4, r4, h4, g4⟩ := h3.put (t := 78) Try.underlying9 Try.underlying78 (by omega) ⟨#[97, 103, 97, 105, 110]⟩ (by decide) (fnV 43)
  obtain ⟨w5, r5, h5, g5⟩ := h4.put (t := 78) Try.underlying9 Try.underlying78 (by omega) ⟨#[102, 97, 105, 108, 101, 100]⟩ (by decide) (fnV 44)
  have hb : Below w.heap.size w w5 := by
    have a0 : w.heap.size ≤ (w.alloc (.map #[] 0)).heap.size := b0.size
    have a1 := g1.size
    have a2 := g2.size
    have a3 := g3.size
    have a4 := g4.size
    exact (((((b0.trans (below_of_grown g1 (Nat.le_refl _) (by omega))).trans (below_of_grown g2 (Nat.le_refl _) (by omega))).trans (below_of_grown g3 (Nat.le_refl _) (by omega))).trans (below_of_grown g4 (Nat.le_refl _) (by omega))).trans (below_of_grown g5 (Nat.le_refl _) (by omega)))
  have H4 := Lib.hid h5
  clear h0 h1 h2 h3 h4 h5 g1 g2 g3 g4 g5 b0
  go_enter Try.func25, Try.ntmps25
  go_wp2_with fail
  go_ret
  exact ⟨_, rfl, Nat.le_refl _, ⟨_, H4.out⟩, hb⟩
set_option maxRecDepth 100000 in
set_option maxHeartbeats 1000000 in
theorem phases_any (w : World) :
    Calls Try.prog 26 #[] w fun e w' => ∃ m n, e = .returned (.map (some m)) ∧ w.heap.size ≤ m ∧ MapIs Try.prog 9 m n phsF w' ∧ Below w.heap.size w w' := by
  have hmm : ∀ w : World, (Instr.makeMap 81 none).run Try.prog w = .ok (.map (some w.heap.size)) (w.alloc (.map #[] 0)) := fun _ => rfl
  have h0 := MapIs.made (P := Try.prog) w 9
  have b0 := below_alloc (Below.refl w.heap.size w) (.map #[] 0)
  obtain ⟨w1, r1, h1, g1⟩ := h0.put (t := 81) Try.underlying9 Try.underlying81 (by omega) ⟨#[98, 101, 103, 105, 110]⟩ (by decide) (.int .i64 0)
  obtain ⟨w2, r2, h2, g2⟩ := h1.put (t := 81) Try.underlying9 Try.underlying81 (by omega) ⟨#[98, 111, 100, 121]⟩ (by decide) (.int .i64 1)
  obtain ⟨w3, r3, h3, g3⟩ := h2.put (t := 81) Try.underlying9 Try.underlying81 (by omega) ⟨#[101, 110, 100, 105, 110, 103]⟩ (by decide) (.int .i64 2)
  obtain ⟨w4, r4, h4, g4⟩ := h3.put (t := 81) Try.underlying9 Try.underlying81 (by omega) ⟨#[104, 97, 108, 116, 101, 100]⟩ (by decide) (.int .i64 3)
  have hb : Below w.heap.size w w4 := by
    have a0 : w.heap.size ≤ (w.alloc (.map #[] 0)).heap.size := b0.size
    have a1 := g1.size
    have a2 := g2.size
    have a3 := g3.size
    exact ((((b0.trans (below_of_grown g1 (Nat.le_refl _) (by omega))).trans (below_of_grown g2 (Nat.le_refl _) (by omega))).trans (below_of_grown g3 (Nat.le_refl _) (by omega))).trans (below_of_grown g4 (Nat.le_refl _) (by omega)))
  have H4 := Lib.hid h4
  clear h0 h1 h2 h3 h4 g1 g2 g3 g4 b0
  go_enter Try.func26, Try.ntmps26
  go_wp2_with fail
  go_ret
  exact ⟨_, rfl, Nat.le_refl _, ⟨_, H4.out⟩, hb⟩
theorem numbers_look {m n : Nat} {w : World} (h : MapIs Try.prog 9 m n numF w) (s : ByteArray) (hs : s.size ≤ 1000000) :
    (Instr.lookup 70 (.map (some m)) (.string s) true).run Try.prog w = .ok (match numF s.data.toList with | some v => .tuple #[v, .bool true] | none => .tuple #[.nilFunc, .bool false]) w :=
  h.look Try.underlying9 Try.underlying70 (e := 68) (by kernel_rfl) s (by omega)
theorem texts_look {m n : Nat} {w : World} (h : MapIs Try.prog 9 m n txtF w) (s : ByteArray) (hs : s.size ≤ 1000000) :
    (Instr.lookup 74 (.map (some m)) (.string s) true).run Try.prog w = .ok (match txtF s.data.toList with | some v => .tuple #[v, .bool true] | none => .tuple #[.nilFunc, .bool false]) w :=
  h.look Try.underlying9 Try.underlying74 (e := 72) (by kernel_rfl) s (by omega)
theorem flags_look {m n : Nat} {w : World} (h : MapIs Try.prog 9 m n flgF w) (s : ByteArray) (hs : s.size ≤ 1000000) :
    (Instr.lookup 78 (.map (some m)) (.string s) true).run Try.prog w = .ok (match flgF s.data.toList with | some v => .tuple #[v, .bool true] | none => .tuple #[.nilFunc, .bool false]) w :=
  h.look Try.underlying9 Try.underlying78 (e := 76) (by kernel_rfl) s (by omega)
theorem phases_look {m n : Nat} {w : World} (h : MapIs Try.prog 9 m n phsF w) (s : ByteArray) (hs : s.size ≤ 1000000) :
    (Instr.lookup 81 (.map (some m)) (.string s) true).run Try.prog w = .ok (match phsF s.data.toList with | some v => .tuple #[v, .bool true] | none => .tuple #[.int .i64 0, .bool false]) w :=
  h.look Try.underlying9 Try.underlying81 (e := 3) (by kernel_rfl) s (by omega)

/-- the words that the law's texts have -/
def words : List ByteArray := [⟨#[108, 105, 110, 101]⟩, ⟨#[104, 111, 108, 100]⟩, ⟨#[112, 97, 116, 116, 101, 114, 110]⟩, ⟨#[105, 115]⟩, ⟨#[104, 97, 115]⟩, ⟨#[99, 104, 97, 110, 103, 101, 100]⟩, ⟨#[97, 110, 100]⟩, ⟨#[110, 111, 116]⟩]
set_option maxRecDepth 100000 in
set_option maxHeartbeats 4000000 in
theorem isWord_any (s : ByteArray) (hs : s ∈ words) (w : World) :
    Calls Try.prog 15 #[.string s] w fun e w' => e = .returned (.bool true) ∧ Below w.heap.size w w' := by
  simp only [words, List.mem_cons, List.not_mem_nil, or_false] at hs
  rcases hs with rfl | rfl | rfl | rfl | rfl | rfl | rfl | rfl
  all_goals
    go_enter Try.func15, Try.ntmps15
    go_wp2_with (first
      | (go_at_call 23; refine (numbers_any _).mono ?_; rintro e w1 ⟨m1, n1, rfl, _, hM1, hb1⟩; have hl1 := numbers_look hM1; clear hM1)
      | (go_at_call 24; refine (texts_any _).mono ?_; rintro e w2 ⟨m2, n2, rfl, _, hM2, hb2⟩; have hl2 := texts_look hM2; clear hM2)
      | (go_at_call 25; refine (flags_any _).mono ?_; rintro e w3 ⟨m3, n3, rfl, _, hM3, hb3⟩; have hl3 := flags_look hM3; clear hM3)
      | (go_at_call 26; refine (phases_any _).mono ?_; rintro e w4 ⟨m4, n4, rfl, _, hM4, hb4⟩; have hl4 := phases_look hM4; clear hM4))
    go_ret
    exact ⟨rfl, ((hb1.trans (hb2.mono hb1.size)).trans (hb3.mono (Nat.le_trans hb1.size hb2.size))).trans (hb4.mono (Nat.le_trans (Nat.le_trans hb1.size hb2.size) hb3.size))⟩
end Go.Proofs.Ythkkfkiiopfkjaa.L4
