import Derived.Test.YthkkfkiiopfkjaaProg
import Derived.Maps.Own
import Derived.Maps.Views
import Derived.StringKeys
import Derived.WalkKit
namespace Go.Proofs.Ythkkfkiiopfkjaa.L4
open Go.RowKit Go.ChangeMaps Go.MapKept Go.WideMaps
open Go.WideElems (Fit rd rg pl rd_val elemAt)
open Go.Maps (Keyed)
section
variable {P : Program}

/-- how any value reads: as itself -/
def asHeld (v : Value) : Option (DataW Value × List MemPlace) := some (.held v, [])
/-- BLOCK m OF w IS A MAP KEYED BY STRINGS (type k): of key s it holds f s. -/
def MapIs (P : Program) (k : TypeId) (m n : Nat) (f : List UInt8 → Option Value) (w : World) : Prop :=
  ∃ D : DataW Value, w.ownsMap P k asHeld m n D ∧ Maps.IsMap D ∧ ∀ (s : List UInt8) z, D.atKey (.string s) z = match f s with | some v => .held v | none => z

theorem MapIs.made (w : World) (k : TypeId) : MapIs P k w.heap.size 0 (fun _ => none) (w.alloc (.map #[] 0)) :=
  ⟨.map [], World.ownsMap_made w P k asHeld, Maps.isMap_empty, fun _ _ => rfl⟩
theorem MapIs.kept {k : TypeId} {m n : Nat} {f : List UInt8 → Option Value} {w w1 : World} {row : Option Nat} (h : MapIs P k m n f w) (hg : w.grownBy w1 row) (hne : some m ≠ row) : MapIs P k m n f w1 :=
  let ⟨D, h1, h2, h3⟩ := h
  ⟨D, h1.kept hg hne, h2, h3⟩
theorem MapIs.below {k : TypeId} {m n : Nat} {f : List UInt8 → Option Value} {w w1 : World} (h : MapIs P k m n f w) (hb : Below w.heap.size w w1) : MapIs P k m n f w1 :=
  h.kept (row := none) ⟨hb.os, hb.tape, hb.output, hb.size, fun i hi _ => hb.block i hi⟩ (by simp)
theorem MapIs.lt {k : TypeId} {m n : Nat} {f : List UInt8 → Option Value} {w : World} (h : MapIs P k m n f w) : m < w.heap.size :=
  let ⟨_, h1, _, _⟩ := h
  h1.lt
theorem MapIs.congr {k : TypeId} {m n : Nat} {f g : List UInt8 → Option Value} {w : World} (h : MapIs P k m n f w) (hfg : ∀ s, f s = g s) : MapIs P k m n g w :=
  let ⟨D, h1, h2, h3⟩ := h
  ⟨D, h1, h2, fun s z => by rw [h3 s z, hfg s]⟩

theorem MapIs.put {k e t : TypeId} {m n : Nat} {f : List UInt8 → Option Value} {w : World} (h : MapIs P k m n f w) (hk : P.underlying k = some .string) (ht : P.underlying t = some (.map k e)) (hn : n < 1000000) (s : ByteArray) (hs : s.size ≤ 1000000) (v : Value) :
    ∃ w1, (Instr.mapUpdate t (.map (some m)) (.string s) v).run P w = .ok () w1 ∧ MapIs P k m (n + 1) (fun q => if q = s.data.toList then some v else f q) w1 ∧ w.grownBy w1 (some m) := by
  obtain ⟨D, h1, h2, h3⟩ := h
  have hkey : keyOf P k (.string s) = some (.string s.data.toList) := keyOf_string_mk hk (by unfold maxLen; omega)
  obtain ⟨w1, hrun, ho, hg⟩ := h1.update (Maps.string_keyed hk) ht (by unfold maxLen; omega) hkey (d := .held v) (ps := []) rfl
  refine ⟨w1, hrun, ⟨_, ho, h2.put _ _, fun q z => ?_⟩, hg⟩
  by_cases hq : q = s.data.toList
  · subst hq
    rw [Maps.atKey_put_same h2 (by simp [WideAt.IsKeyLit])]; simp
  · rw [Maps.atKey_put_other (by intro e1; exact hq (Lit.string.inj e1)), h3 q z]; simp only [if_neg hq]

theorem MapIs.look {k e t : TypeId} {m n : Nat} {f : List UInt8 → Option Value} {w : World} (h : MapIs P k m n f w) (hk : P.underlying k = some .string) (ht : P.underlying t = some (.map k e)) {z : Value} (hz : (zeroValue e).run P w = .ok z w) (s : ByteArray) (hs : s.size ≤ 9223372036854775807) :
    (Instr.lookup t (.map (some m)) (.string s) true).run P w = .ok (match f s.data.toList with | some v => .tuple #[v, .bool true] | none => .tuple #[z, .bool false]) w := by
  obtain ⟨D, ⟨es, clock, hb, F, _, rfl⟩, h2, h3⟩ := h
  have hkey : keyOf P k (.string s) = some (.string s.data.toList) := keyOf_string_mk hk hs
  rcases Maps.fit_look true (Maps.string_keyed hk) ht hz hb F hkey with ⟨hrun, _, hat⟩ | ⟨e0, y, _, _, hrun, hRv, hat, _⟩
  · have h4 := (hat .nil).symm.trans (h3 s.data.toList .nil)
    cases hf : f s.data.toList with
    | none => simpa using hrun
    | some v => rw [hf] at h4; cases h4
  · have h4 := (hat .nil).symm.trans (h3 s.data.toList .nil)
    have hy : y.1 = .held e0.val := by
      have := Option.some.inj hRv
      rw [← this]
    cases hf : f s.data.toList with
    | none => rw [hf, hy] at h4; cases h4
    | some v =>
      rw [hf, hy] at h4
      have : e0.val = v := by cases h4; rfl
      rw [← this]
      simpa using hrun
end
end Go.Proofs.Ythkkfkiiopfkjaa.L4
