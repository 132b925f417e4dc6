import Derived.Test.YthkkfkiiopfkjaaCParse
import Derived.Test.YthkkfkiiopfkjaaCNext2
import Derived.Test.YthkkfkiiopfkjaaCNext3
import Derived.Test.YthkkfkiiopfkjaaCNext4
set_option linter.unusedVariables false
set_option linter.unusedSimpArgs false
namespace Go.Proofs.Ythkkfkiiopfkjaa.L4
open Go.RowKit Go.Proofs.YthkkfkiiopfkjaaW.PrintWords

/-! what is kept where a result is stored -/
theorem Cell1.res {w : World} {b c : Nat} {t : TypeId} {v y x : Value} (h : Cell1 w b t v) (hc : Cell1 w c 37 y) (ht : t ≠ 37) : Cell1 (w.setCell ⟨c, 0, none⟩ x) b t v :=
  ⟨blk_far h.out (by show b ≠ c; exact blk_ne h.out hc.out ht) _⟩
theorem NumC.res {w : World} {c : Nat} {v gv y x : Value} {n : Int} {sg : ByteArray} (h : NumC w v gv n sg) (hc : Cell1 w c 37 y) : NumC (w.setCell ⟨c, 0, none⟩ x) v gv n sg :=
  let ⟨b1, b2, b3, e, h1, h2, h3⟩ := h
  ⟨b1, b2, b3, e, h1.res hc (by decide), h2.res hc (by decide), h3.res hc (by decide)⟩
theorem BytesAt.res {w : World} {G b c : Nat} {l : List Int} {x : Value} (h : BytesAt G w b l) (hc : Cell1 w c 37 (.pointer none)) : BytesAt G (w.setCell ⟨c, 0, none⟩ x) b l := by
  refine ⟨h.1, fun j hj => ?_⟩
  have hcell := h.2 j hj
  by_cases hbc : b = c
  · subst hbc
    have hz := blk_cell hc.out j
    rw [hz] at hcell
    rcases j with _ | j
    · simp at hcell
    · simp at hcell
  · rw [World.cell?_of_block (Below.heap_setCell w ⟨c, 0, none⟩ x b hbc)]
    exact hcell
theorem TxtC.res {G K : Nat} {w : World} {c : Nat} {v gv x : Value} {q : ByteArray} (h : TxtC G K w v gv q) (hc : Cell1 w c 37 (.pointer none)) : TxtC G K (w.setCell ⟨c, 0, none⟩ x) v gv q :=
  let ⟨b1, b2, b3, cc, e, h1, h2, h3, h4⟩ := h
  ⟨b1, b2, b3, cc, e, h1.res hc (by decide), h2.res hc (by decide), h3, h4.res hc⟩
theorem ChgC.res {w : World} {c : Nat} {v gv y x : Value} (h : ChgC w v gv) (hc : Cell1 w c 37 y) : ChgC (w.setCell ⟨c, 0, none⟩ x) v gv :=
  let ⟨b1, e, h1⟩ := h
  ⟨b1, e, h1.res hc (by decide)⟩
theorem AndC.map {w w1 : World} {v : Value} {R1 R2 : World → Value → Prop} (h : AndC w v R1 R2) (hc : ∀ b t x, t = 54 → Cell1 w b t x → Cell1 w1 b t x) (h1 : ∀ x, R1 w x → R1 w1 x) (h2 : ∀ x, R2 w x → R2 w1 x) : AndC w1 v R1 R2 :=
  let ⟨b1, b2, x1, x2, e, a1, a2, a3, a4⟩ := h
  ⟨b1, b2, x1, x2, e, hc _ _ _ rfl a1, hc _ _ _ rfl a2, h1 _ a3, h2 _ a4⟩
theorem NotC.map {w w1 : World} {v : Value} {R : World → Value → Prop} (h : NotC w v R) (hc : ∀ b t x, t = 54 → Cell1 w b t x → Cell1 w1 b t x) (h1 : ∀ x, R w x → R w1 x) : NotC w1 v R :=
  let ⟨b1, x1, e, a1, a3⟩ := h
  ⟨b1, x1, e, hc _ _ _ rfl a1, h1 _ a3⟩

/-- what Parse comes to -/
def ParseTo (s : ByteArray) (R : Nat → World → Value → Prop) : Prop :=
  ∀ w, Calls Try.prog 6 #[.string s] w fun e w' => ∃ G b K caps, e = .returned (.tuple #[ptr b, .int .i64 0, .int .i64 0]) ∧ w'.heap[b]? = some (.cells #[.func (Fn.func K) #[] caps, .string s] 57 (0, 0)) ∧ R G w' (.func (Fn.func K) #[] caps) ∧ Below w.heap.size w w'

def wLine : ByteArray := ⟨#[108, 105, 110, 101]⟩
def wHold : ByteArray := ⟨#[104, 111, 108, 100]⟩
def wPattern : ByteArray := ⟨#[112, 97, 116, 116, 101, 114, 110]⟩

theorem givesNum {G : Nat} {s : ByteArray} {i p n d : Int} {i1 p1 n1 i2 p2 m i3 k3 p3 n3 : Int} {sg q2 q3 : ByteArray}
    (h1 : NextTo G s i d i1 4 p1 n1 sg) (h2 : NextTo G s i1 d i2 2 p2 m q2) (h3 : NextTo G s i2 d i3 k3 p3 n3 q3) :
    GivesFn 30 G s i 1 p n wLine d (fun w v => NumC w v (fnV 32) m sg) (PS G s i3 k3 p3 n3 q3 d) := by
  intro W hP
  refine (part_num G s i p n wLine d W hP 32 (by decide) (by decide +kernel) rfl rfl rfl (R := fun w v => NumC w v (fnV 32) m sg) (PE := PS G s i3 k3 p3 n3 q3 d) h1
    (fun W1 hW1 => (number_any G s i1 p1 n1 sg d W1 hW1 32 h2 h3))).mono ?_
  rintro e w' ⟨v, rfl, hR, hP', hK⟩
  obtain ⟨b1, b2, b3, rfl, hh⟩ := hR
  exact ⟨_, _, rfl, ⟨b1, b2, b3, rfl, hh⟩, hP', hK⟩
theorem givesTxt (has pat : Bool) {G : Nat} {s : ByteArray} {i p n d : Int} {i1 p1 n1 i2 p2 n2 i3 k3 p3 n3 : Int} {q2 q3 : ByteArray} (hq : q2.size ≤ 100000)
    (h1 : NextTo G s i d i1 1 p1 n1 (if has then ⟨#[104, 97, 115]⟩ else ⟨#[105, 115]⟩)) (h2 : NextTo G s i1 d i2 3 p2 n2 q2) (h3 : NextTo G s i2 d i3 k3 p3 n3 q3) :
    GivesFn 30 G s i 1 p n (if pat then wPattern else wHold) d (fun w v => TxtC G (if has then 60 else 62) w v (fnV (if pat then 36 else 37)) q2) (PS G s i3 k3 p3 n3 q3 d) := by
  intro W hP
  refine (part_text G s i p n (if pat then wPattern else wHold) d W hP (if pat then 36 else 37) (by cases pat <;> decide) (by cases pat <;> decide +kernel) (by cases pat <;> rfl) (by cases pat <;> rfl) (by cases pat <;> rfl) (R := fun w v => TxtC G (if has then 60 else 62) w v (fnV (if pat then 36 else 37)) q2) (PE := PS G s i3 k3 p3 n3 q3 d) h1
    (fun W1 hW1 => (text_is has G s i1 p1 n1 d W1 hW1 _ h2 h3 hq))).mono ?_
  rintro e w' ⟨v, rfl, hR, hP', hK⟩
  obtain ⟨b1, b2, b3, c, rfl, hh⟩ := hR
  exact ⟨_, _, rfl, ⟨b1, b2, b3, c, rfl, hh⟩, hP', hK⟩
theorem givesChg {G : Nat} {s : ByteArray} {i p n d : Int} {i1 p1 n1 i3 k3 p3 n3 : Int} {q3 : ByteArray}
    (h1 : NextTo G s i d i1 1 p1 n1 ⟨#[99, 104, 97, 110, 103, 101, 100]⟩) (h3 : NextTo G s i1 d i3 k3 p3 n3 q3) :
    GivesFn 30 G s i 1 p n wHold d (fun w v => ChgC w v (fnV 37)) (PS G s i3 k3 p3 n3 q3 d) := by
  intro W hP
  refine (part_text G s i p n wHold d W hP 37 (by decide) (by decide +kernel) rfl rfl rfl (R := fun w v => ChgC w v (fnV 37)) (PE := PS G s i3 k3 p3 n3 q3 d) h1
    (fun W1 hW1 => (text_changed G s i1 p1 n1 d W1 hW1 _ h3))).mono ?_
  rintro e w' ⟨v, rfl, hR, hP', hK⟩
  obtain ⟨b1, rfl, hh⟩ := hR
  exact ⟨_, _, rfl, ⟨b1, rfl, hh⟩, hP', hK⟩

theorem parse_num (s : ByteArray) (hs : s.size ≤ 4096) {n1 i1 p1 i2 p2 m i3 p3 n3 i4 n4 : Int} {sg q2 q3 : ByteArray} (h0 : ∀ G, NextTo G s 0 0 i4 1 0 n4 wLine)
    (h1 : ∀ G, NextTo G s i4 0 i1 4 p1 n1 sg) (h2 : ∀ G, NextTo G s i1 0 i2 2 p2 m q2) (h3 : ∀ G, NextTo G s i2 0 i3 0 p3 n3 q3) :
    ParseTo s (fun _ w v => NumC w v (fnV 32) m sg) := fun w =>
  parse_ok s hs w (fun _ _ _ _ h hb => h.below hb) (fun _ _ _ _ _ h hc => h.res hc) h0 (fun G => either_one (both_one (givesNum (h1 G) (h2 G) (h3 G)) (.inl (by decide))) (.inl (by decide)))
theorem parse_txt (has : Bool) (s : ByteArray) (hs : s.size ≤ 4096) {n1 i1 p1 i2 p2 n2 i3 p3 n3 i4 n4 : Int} {q2 q3 : ByteArray} (hq : q2.size ≤ 100000) (h0 : ∀ G, NextTo G s 0 0 i4 1 0 n4 wHold)
    (h1 : ∀ G, NextTo G s i4 0 i1 1 p1 n1 (if has then ⟨#[104, 97, 115]⟩ else ⟨#[105, 115]⟩)) (h2 : ∀ G, NextTo G s i1 0 i2 3 p2 n2 q2) (h3 : ∀ G, NextTo G s i2 0 i3 0 p3 n3 q3) :
    ParseTo s (fun G w v => TxtC G (if has then 60 else 62) w v (fnV 37) q2) := fun w =>
  parse_ok s hs w (fun _ _ _ _ h hb => h.below hb) (fun _ _ _ _ _ h hc => h.res hc) h0 (fun G => either_one (both_one (givesTxt has false hq (h1 G) (h2 G) (h3 G)) (.inl (by decide))) (.inl (by decide)))
theorem parse_chg (s : ByteArray) (hs : s.size ≤ 4096) {n1 i1 p1 i3 p3 n3 i4 n4 : Int} {q3 : ByteArray} (h0 : ∀ G, NextTo G s 0 0 i4 1 0 n4 wHold)
    (h1 : ∀ G, NextTo G s i4 0 i1 1 p1 n1 ⟨#[99, 104, 97, 110, 103, 101, 100]⟩) (h3 : ∀ G, NextTo G s i1 0 i3 0 p3 n3 q3) :
    ParseTo s (fun _ w v => ChgC w v (fnV 37)) := fun w =>
  parse_ok s hs w (fun _ _ _ _ h hb => h.below hb) (fun _ _ _ _ _ h hc => h.res hc) h0 (fun G => either_one (both_one (givesChg (h1 G) (h3 G)) (.inl (by decide))) (.inl (by decide)))
end Go.Proofs.Ythkkfkiiopfkjaa.L4
